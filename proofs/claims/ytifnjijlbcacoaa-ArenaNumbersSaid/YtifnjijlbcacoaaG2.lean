import Derived.Test.YtifnjijlbcacoaaProg
import Derived.Test.YtifnjijlbcacoaaFwEq
import Derived.Test.YtifnjijlbcacoaaFwOpen
import Derived.Test.YtifnjijlbcacoaaG0
import Derived.Test.YtifnjijlbcacoaaG1
namespace Go.Proofs.Ytifnjijlbcacoaa.G
open Go Go.Fw Go.RowKit Go.Proofs
set_option linter.unusedVariables false
set_option linter.unusedSimpArgs false

/-! ### confidant/ident.Of: function 51 -/
def ident_Of.f (K : Nat) (a985 : Int) (a986 : Int) : Option (Int × Bool) := lt (fun (x1036 : Bool) => (if x1036 = true then (some (0, false)) else (lt (IntKind.i32.wrap (IntKind.i64.wrap ((IntKind.i64.wrap (a985 * 65536)) + a986))) fun y1042 => (some (y1042, true))))) fun j1037 => (if a985 < 0 then (j1037 true) else (if a985 ≥ 16 then (j1037 true) else (if a986 < 0 then (j1037 true) else (j1037 (decide (a986 ≥ 65536))))))
set_option maxRecDepth 100000 in
theorem ident_Of.calls {K : Nat} {a985 : Int} {a986 : Int} {x1014 : Int} {x1015 : Bool} {B w : World} {os : List Ass} {rs : List Ro} (H : ident_Of.f K a985 a986 = some (x1014, x1015)) (hS : St B w (os) (rs)) :
    Calls Try.prog 51 [.int .i64 a985, .int .i64 a986].toArray w (fun en w' => ∃ v, en = .returned v ∧ v = .tuple #[.int .i32 x1014, .bool (x1015)] ∧ St B w' (os) (rs)) := by
  unfold ident_Of.f at H
  refine calls_of_EW (args := [.int .i64 a985, .int .i64 a986]) (c := Cd51) 25 Try.func51 (by kernel_rfl) (by kernel_rfl) (by kernel_rfl) ?_
  refine EW.seq (x := Cd51.l) (y := Cd51.r) (by kernel_rfl) ?_
  refine EW.region (id := 0) (ops := Cd51.l.ops) (by kernel_rfl) ?_
  refine EL.quick 2 [0, 1] [(0, .int .i64 a985), (1, .int .i64 a986)] (by kernel_rfl) ?_
  refine EL.done (by kernel_rfl) ?_
  refine EQ.code ?_
  refine EW.seq (x := Cd51.r.l) (y := Cd51.r.r) (by kernel_rfl) ?_
  obtain ⟨j1037, hj1037, H⟩ := lt_out H
  refine EW.cut (x := Cd51.r.l.l) (y := Cd51.r.l.r) (fun a w => ∃ x1036 : Bool, Sat 25 [(0, .int .i64 a985), (1, .int .i64 a986), (19, .bool (x1036))] a ∧ St B w (os) (rs) ∧ j1037 x1036 = some (x1014, x1015)) (by kernel_rfl) ?_ (fun a w hI => ?_)
  · refine EW.region (id := 1) (ops := Cd51.r.l.l.ops) (by kernel_rfl) ?_
    refine EL.quick 3 [0, 1, 8] [(0, .int .i64 a985), (1, .int .i64 a986), (8, .bool (decide (a985 < 0)))] (by kernel_rfl) ?_
    by_cases h1038 : a985 < 0
    · rw [if_pos h1038] at H
      refine EL.keep [0, 1, 8] [(0, .int .i64 a985), (1, .int .i64 a986), (8, .bool (decide (a985 < 0)))] (by kernel_rfl) ?_
      refine EL.as' [(0, .int .i64 a985), (1, .int .i64 a986), (8, .bool (true))] (by simp only [dec_t h1038, Bool.not_true, Bool.not_false]) ?_
      refine EL.quick 11 [0, 1, 19] [(0, .int .i64 a985), (1, .int .i64 a986), (19, .bool (true))] (by kernel_rfl) ?_
      refine EL.done (by kernel_rfl) ?_
      refine EQ.to ?_
      refine EQ.keep [0, 1, 19] [(0, .int .i64 a985), (1, .int .i64 a986), (19, .bool (true))] (by kernel_rfl) ?_
      exact fun a ha => ⟨true, ha, (hS.re [] [] rfl (sub_self)), H⟩
    · rw [if_neg h1038] at H
      refine EL.keep [0, 1, 8] [(0, .int .i64 a985), (1, .int .i64 a986), (8, .bool (decide (a985 < 0)))] (by kernel_rfl) ?_
      refine EL.as' [(0, .int .i64 a985), (1, .int .i64 a986), (8, .bool (false))] (by simp only [dec_f h1038, Bool.not_true, Bool.not_false]) ?_
      refine EL.quick 4 [0, 1, 12] [(0, .int .i64 a985), (1, .int .i64 a986), (12, .bool (decide (a985 ≥ 16)))] (by kernel_rfl) ?_
      by_cases h1039 : a985 ≥ 16
      · rw [if_pos h1039] at H
        refine EL.keep [0, 1, 12] [(0, .int .i64 a985), (1, .int .i64 a986), (12, .bool (decide (a985 ≥ 16)))] (by kernel_rfl) ?_
        refine EL.as' [(0, .int .i64 a985), (1, .int .i64 a986), (12, .bool (true))] (by simp only [dec_t h1039, Bool.not_true, Bool.not_false]) ?_
        refine EL.quick 7 [0, 1, 19] [(0, .int .i64 a985), (1, .int .i64 a986), (19, .bool (true))] (by kernel_rfl) ?_
        refine EL.done (by kernel_rfl) ?_
        refine EQ.to ?_
        refine EQ.keep [0, 1, 19] [(0, .int .i64 a985), (1, .int .i64 a986), (19, .bool (true))] (by kernel_rfl) ?_
        exact fun a ha => ⟨true, ha, (hS.re [] [] rfl (sub_self)), H⟩
      · rw [if_neg h1039] at H
        refine EL.keep [0, 1, 12] [(0, .int .i64 a985), (1, .int .i64 a986), (12, .bool (decide (a985 ≥ 16)))] (by kernel_rfl) ?_
        refine EL.as' [(0, .int .i64 a985), (1, .int .i64 a986), (12, .bool (false))] (by simp only [dec_f h1039, Bool.not_true, Bool.not_false]) ?_
        refine EL.quick 4 [0, 1, 16] [(0, .int .i64 a985), (1, .int .i64 a986), (16, .bool (decide (a986 < 0)))] (by kernel_rfl) ?_
        by_cases h1040 : a986 < 0
        · rw [if_pos h1040] at H
          refine EL.keep [0, 1, 16] [(0, .int .i64 a985), (1, .int .i64 a986), (16, .bool (decide (a986 < 0)))] (by kernel_rfl) ?_
          refine EL.as' [(0, .int .i64 a985), (1, .int .i64 a986), (16, .bool (true))] (by simp only [dec_t h1040, Bool.not_true, Bool.not_false]) ?_
          refine EL.quick 3 [0, 1, 19] [(0, .int .i64 a985), (1, .int .i64 a986), (19, .bool (true))] (by kernel_rfl) ?_
          refine EL.done (by kernel_rfl) ?_
          refine EQ.to ?_
          refine EQ.keep [0, 1, 19] [(0, .int .i64 a985), (1, .int .i64 a986), (19, .bool (true))] (by kernel_rfl) ?_
          exact fun a ha => ⟨true, ha, (hS.re [] [] rfl (sub_self)), H⟩
        · rw [if_neg h1040] at H
          refine EL.keep [0, 1, 16] [(0, .int .i64 a985), (1, .int .i64 a986), (16, .bool (decide (a986 < 0)))] (by kernel_rfl) ?_
          refine EL.as' [(0, .int .i64 a985), (1, .int .i64 a986), (16, .bool (false))] (by simp only [dec_f h1040, Bool.not_true, Bool.not_false]) ?_
          refine EL.quick 3 [0, 1, 19] [(0, .int .i64 a985), (1, .int .i64 a986), (19, .bool (decide (a986 ≥ 65536)))] (by kernel_rfl) ?_
          refine EL.done (by kernel_rfl) ?_
          refine EQ.to ?_
          refine EQ.keep [0, 1, 19] [(0, .int .i64 a985), (1, .int .i64 a986), (19, .bool (decide (a986 ≥ 65536)))] (by kernel_rfl) ?_
          exact fun a ha => ⟨decide (a986 ≥ 65536), ha, (hS.re [] [] rfl (sub_self)), H⟩
  · obtain ⟨x1036, ha, hS, H⟩ := hI
    rw [hj1037] at H
    (try dsimp only at H)
    refine EW.at ?_ a ha
    clear ha a
    refine EW.condP' (o := (.tmp 19)) (x := Cd51.r.l.r.l) (y := Cd51.r.l.r.r) (x1036) (by kernel_rfl) (by kernel_rfl) (fun h1041 => ?_) (fun h1041 => ?_)
    · rw [if_pos h1041] at H
      refine EW.seq (x := Cd51.r.l.r.l.l) (y := Cd51.r.l.r.l.r) (by kernel_rfl) ?_
      refine EW.region (id := 2) (ops := Cd51.r.l.r.l.l.ops) (by kernel_rfl) ?_
      refine EL.quick 2 [4, 5] [(4, .int .i32 0), (5, .bool (false))] (by kernel_rfl) ?_
      refine EL.done (by kernel_rfl) ?_
      refine EQ.code ?_
      refine EW.ret (by kernel_rfl) ?_
      refine EQ.ret ?_
      simp only [Option.some.injEq, Prod.mk.injEq] at H
      obtain ⟨rfl, rfl⟩ := H
      exact EQ.leave (.tuple #[.int .i32 0, .bool (false)]) (by kernel_rfl) ⟨_, rfl, rfl, (hS.re [] [] rfl (sub_self))⟩
    · rw [if_neg h1041] at H
      refine EW.skip (by kernel_rfl) ?_
      refine EQ.code ?_
      refine EW.seq (x := Cd51.r.r.l) (y := Cd51.r.r.r) (by kernel_rfl) ?_
      refine EW.region (id := 3) (ops := Cd51.r.r.l.ops) (by kernel_rfl) ?_
      refine EL.quick 7 [4, 5] [(4, .int .i32 (IntKind.i32.wrap (IntKind.i64.wrap ((IntKind.i64.wrap (a985 * 65536)) + a986)))), (5, .bool (true))] (by kernel_rfl) ?_
      obtain ⟨y1042, hy1042, H⟩ := lt_out H
      refine EL.keep [4, 5] [(4, .int .i32 (IntKind.i32.wrap (IntKind.i64.wrap ((IntKind.i64.wrap (a985 * 65536)) + a986)))), (5, .bool (true))] (by kernel_rfl) ?_
      refine EL.as' [(4, .int .i32 y1042), (5, .bool (true))] (by subst hy1042; rfl) ?_
      refine EL.done (by kernel_rfl) ?_
      refine EQ.code ?_
      refine EW.ret (by kernel_rfl) ?_
      simp only [Option.some.injEq, Prod.mk.injEq] at H
      obtain ⟨rfl, rfl⟩ := H
      exact EQ.leave (.tuple #[.int .i32 y1042, .bool (true)]) (by kernel_rfl) ⟨_, rfl, rfl, (hS.re [] [] rfl (sub_self))⟩

/-! ### (*confidant/arena.Arena).Make: function 36 -/
def arena_Arena_Make.f (K : Nat) (l907 : List (List S69)) (l911 : List Int) (a915 : Int) (a916 : Int) (a917 : Int) : Option (List (List S69) × Int × Bool) := lt (fun (x1123 : Bool) => (if x1123 = true then (some (l907, 0, false)) else (if 0 ≤ a915 then (if a915 < (l907.length : Int) then (b2 (ident_Of.f K a915 ((l907.getD a915.toNat []).length : Int)) fun (t1152 : Int) (t1153 : Bool) => (lt ([(⟨a916, a917⟩ : S69)] : List S69) fun l1163 => (if ((l907.getD a915.toNat []).length + l1163.length) * 16 ≤ 140737488355328 then (lt ((l907.getD a915.toNat []) ++ l1163) fun l1165 => (lt (l907.set a915.toNat l1165) fun l1168 => (some (l1168, t1152, t1153)))) else none))) else none) else none))) fun j1124 => (if a915 < 0 then (j1124 true) else (if a915 ≥ (l907.length : Int) then (j1124 true) else (if 0 ≤ a915 then (if a915 < (l907.length : Int) then (if a915 < (l911.length : Int) then (j1124 (decide (((l907.getD a915.toNat []).length : Int) ≥ (l911.getD a915.toNat 0)))) else none) else none) else none)))
set_option maxRecDepth 100000 in
theorem arena_Arena_Make.calls {K : Nat} {l907 : List (List S69)} {l911 : List Int} {a915 : Int} {a916 : Int} {a917 : Int} {g906 : Nat} {A908 : Option Addr} {C909 : Nat} {A912 : Option Addr} {C913 : Nat} {x1068 : List (List S69)} {x1071 : Int} {x1072 : Bool} {B w : World} {os : List Ass} {rs : List Ro} (H : arena_Arena_Make.f K l907 l911 a915 a916 a917 = some (x1068, x1071, x1072)) (hS : St B w (Ass.box 95 g906 [.slice A908 l907.length C909, .slice A912 l911.length C913] :: Ass.deep 76 69 kS69 A908 C909 l907 :: Ass.own 3 (Kd.int .i64) A912 C913 l911 :: os) (rs)) :
    Calls Try.prog 36 [.pointer (some ⟨g906, 0, none⟩), .int .i64 a915, .int .i64 a916, .int .i32 a917].toArray w (fun en w' => ∃ v, en = .returned v ∧ ∃ A1069 : Option Addr, ∃ C1070 : Nat, v = .tuple #[.int .i32 x1071, .bool (x1072)] ∧ St B w' (Ass.box 95 g906 [.slice A1069 x1068.length C1070, .slice A912 l911.length C913] :: Ass.deep 76 69 kS69 A1069 C1070 x1068 :: Ass.own 3 (Kd.int .i64) A912 C913 l911 :: os) (rs)) := by
  unfold arena_Arena_Make.f at H
  refine calls_of_EW (args := [.pointer (some ⟨g906, 0, none⟩), .int .i64 a915, .int .i64 a916, .int .i32 a917]) (c := Cd36) 74 Try.func36 (by kernel_rfl) (by kernel_rfl) (by kernel_rfl) ?_
  refine EW.seq (x := Cd36.l) (y := Cd36.r) (by kernel_rfl) ?_
  refine EW.region (id := 0) (ops := Cd36.l.ops) (by kernel_rfl) ?_
  refine EL.quick 2 [0, 1, 2, 3] [(0, .pointer (some ⟨g906, 0, none⟩)), (1, .int .i64 a915), (2, .int .i64 a916), (3, .int .i32 a917)] (by kernel_rfl) ?_
  refine EL.done (by kernel_rfl) ?_
  refine EQ.code ?_
  refine EW.seq (x := Cd36.r.l) (y := Cd36.r.r) (by kernel_rfl) ?_
  obtain ⟨j1124, hj1124, H⟩ := lt_out H
  refine EW.cut (x := Cd36.r.l.l) (y := Cd36.r.l.r) (fun a w => ∃ x1123 : Bool, Sat 74 [(0, .pointer (some ⟨g906, 0, none⟩)), (1, .int .i64 a915), (2, .int .i64 a916), (3, .int .i32 a917), (40, .bool (x1123))] a ∧ St B w (Ass.box 95 g906 [.slice A908 l907.length C909, .slice A912 l911.length C913] :: Ass.deep 76 69 kS69 A908 C909 l907 :: Ass.own 3 (Kd.int .i64) A912 C913 l911 :: os) (rs) ∧ j1124 x1123 = some (x1068, x1071, x1072)) (by kernel_rfl) ?_ (fun a w hI => ?_)
  · by_cases h1125 : a915 < 0
    · rw [if_pos h1125] at H
      have hS := hS.drew
      refine EW.draw (B := B) (id := 1) (ops := Cd36.r.l.l.ops) [Ass.box 95 g906 [.slice A908 l907.length C909, .slice A912 l911.length C913], Ass.deep 76 69 kS69 A908 C909 l907, Ass.own 3 (Kd.int .i64) A912 C913 l911] [] (by kernel_rfl) (by kernel_rfl) ?_
      have hN : Region.noSelect Cd36.r.l.l.ops = true := (by kernel_rfl)
      have hF : freeAll Cd36.r.l.l.ops = true := (by kernel_rfl)
      have hC : Core B [Ass.box 95 g906 [.slice A908 l907.length C909, .slice A912 l911.length C913], Ass.deep 76 69 kS69 A908 C909 l907, Ass.own 3 (Kd.int .i64) A912 C913 l911] [] _ := ⟨_, _, hS⟩
      refine ED.quick hN hF hC [0, 1, 2] [0, 1, 2, 3, 14] 26 [(0, .pointer (some ⟨g906, 0, none⟩)), (1, .int .i64 a915), (2, .int .i64 a916), (3, .int .i32 a917), (14, .bool (decide (a915 < 0)))] #[true, true, true, false, false, false, false, false, false, false, false, false, false, false, false, false, false, false, false, false, false, false, false, false, false, false, false, false, false] (by kernel_rfl) (by kernel_rfl) ?_
      refine ED.keep [0, 1, 2, 3, 14] [(0, .pointer (some ⟨g906, 0, none⟩)), (1, .int .i64 a915), (2, .int .i64 a916), (3, .int .i32 a917), (14, .bool (decide (a915 < 0)))] (by kernel_rfl) ?_
      refine ED.as' [(0, .pointer (some ⟨g906, 0, none⟩)), (1, .int .i64 a915), (2, .int .i64 a916), (3, .int .i32 a917), (14, .bool (true))] (by simp only [dec_t h1125, Bool.not_true, Bool.not_false]) ?_
      refine ED.quick hN hF hC [3, 4, 5, 6, 7, 8, 9, 10, 11, 12, 13, 14, 15, 16, 17, 18, 19, 20, 21, 22, 23, 24, 25, 26, 27, 28] [0, 1, 2, 3, 40] 0 [(0, .pointer (some ⟨g906, 0, none⟩)), (1, .int .i64 a915), (2, .int .i64 a916), (3, .int .i32 a917), (40, .bool (true))] #[true, true, true, true, true, true, true, true, true, true, true, true, true, true, true, true, true, true, true, true, true, true, true, true, true, true, true, true, true] (by kernel_rfl) (by kernel_rfl) ?_
      refine ED.done (by kernel_rfl) ?_
      refine EQ.to ?_
      refine EQ.keep [0, 1, 2, 3, 40] [(0, .pointer (some ⟨g906, 0, none⟩)), (1, .int .i64 a915), (2, .int .i64 a916), (3, .int .i32 a917), (40, .bool (true))] (by kernel_rfl) ?_
      exact fun a ha => ⟨true, ha, (hS.re [2, 2, 2] [] rfl (sub_self)), H⟩
    · rw [if_neg h1125] at H
      by_cases h1126 : a915 ≥ (l907.length : Int)
      · rw [if_pos h1126] at H
        have hS := hS.drew
        refine EW.draw (B := B) (id := 1) (ops := Cd36.r.l.l.ops) [Ass.box 95 g906 [.slice A908 l907.length C909, .slice A912 l911.length C913], Ass.deep 76 69 kS69 A908 C909 l907, Ass.own 3 (Kd.int .i64) A912 C913 l911] [] (by kernel_rfl) (by kernel_rfl) ?_
        have hN : Region.noSelect Cd36.r.l.l.ops = true := (by kernel_rfl)
        have hF : freeAll Cd36.r.l.l.ops = true := (by kernel_rfl)
        have hC : Core B [Ass.box 95 g906 [.slice A908 l907.length C909, .slice A912 l911.length C913], Ass.deep 76 69 kS69 A908 C909 l907, Ass.own 3 (Kd.int .i64) A912 C913 l911] [] _ := ⟨_, _, hS⟩
        refine ED.quick hN hF hC [0, 1, 2] [0, 1, 2, 3, 14] 26 [(0, .pointer (some ⟨g906, 0, none⟩)), (1, .int .i64 a915), (2, .int .i64 a916), (3, .int .i32 a917), (14, .bool (decide (a915 < 0)))] #[true, true, true, false, false, false, false, false, false, false, false, false, false, false, false, false, false, false, false, false, false, false, false, false, false, false, false, false, false] (by kernel_rfl) (by kernel_rfl) ?_
        refine ED.keep [0, 1, 2, 3, 14] [(0, .pointer (some ⟨g906, 0, none⟩)), (1, .int .i64 a915), (2, .int .i64 a916), (3, .int .i32 a917), (14, .bool (decide (a915 < 0)))] (by kernel_rfl) ?_
        refine ED.as' [(0, .pointer (some ⟨g906, 0, none⟩)), (1, .int .i64 a915), (2, .int .i64 a916), (3, .int .i32 a917), (14, .bool (false))] (by simp only [dec_f h1125, Bool.not_true, Bool.not_false]) ?_
        refine ED.quick hN hF hC [3, 4, 5, 6] [0, 1, 2, 3, 14, 15, 18] 22 [(0, .pointer (some ⟨g906, 0, none⟩)), (1, .int .i64 a915), (2, .int .i64 a916), (3, .int .i32 a917), (14, .bool (false)), (15, .int .i64 a915), (18, .pointer (some ⟨g906, 0, none⟩))] #[true, true, true, true, true, true, true, false, false, false, false, false, false, false, false, false, false, false, false, false, false, false, false, false, false, false, false, false, false] (by kernel_rfl) (by kernel_rfl) ?_
        refine ED.Y hN hF hC 7 21 #[true, true, true, true, true, true, true, true, false, false, false, false, false, false, false, false, false, false, false, false, false, false, false, false, false, false, false, false, false] (by kernel_rfl) (by kernel_rfl) rfl (fun _ _ _ hS => YO.loadBox hS 0 rfl 73 0 1 (.slice A908 l907.length C909) 19 (by kernel_rfl) (by kernel_rfl) (by kernel_rfl) (by kernel_rfl)) ?_
        refine ED.quick hN hF hC [8, 9, 10, 11] [0, 1, 2, 3, 23] 17 [(0, .pointer (some ⟨g906, 0, none⟩)), (1, .int .i64 a915), (2, .int .i64 a916), (3, .int .i32 a917), (23, .bool (decide (a915 ≥ (l907.length : Int))))] #[true, true, true, true, true, true, true, true, true, true, true, true, false, false, false, false, false, false, false, false, false, false, false, false, false, false, false, false, false] (by kernel_rfl) (by kernel_rfl) ?_
        refine ED.keep [0, 1, 2, 3, 23] [(0, .pointer (some ⟨g906, 0, none⟩)), (1, .int .i64 a915), (2, .int .i64 a916), (3, .int .i32 a917), (23, .bool (decide (a915 ≥ (l907.length : Int))))] (by kernel_rfl) ?_
        refine ED.as' [(0, .pointer (some ⟨g906, 0, none⟩)), (1, .int .i64 a915), (2, .int .i64 a916), (3, .int .i32 a917), (23, .bool (true))] (by simp only [dec_t h1126, Bool.not_true, Bool.not_false]) ?_
        refine ED.quick hN hF hC [12, 13, 14, 15, 16, 17, 18, 19, 20, 21, 22, 23, 24, 25, 26, 27, 28] [0, 1, 2, 3, 40] 0 [(0, .pointer (some ⟨g906, 0, none⟩)), (1, .int .i64 a915), (2, .int .i64 a916), (3, .int .i32 a917), (40, .bool (true))] #[true, true, true, true, true, true, true, true, true, true, true, true, true, true, true, true, true, true, true, true, true, true, true, true, true, true, true, true, true] (by kernel_rfl) (by kernel_rfl) ?_
        refine ED.done (by kernel_rfl) ?_
        refine EQ.to ?_
        refine EQ.keep [0, 1, 2, 3, 40] [(0, .pointer (some ⟨g906, 0, none⟩)), (1, .int .i64 a915), (2, .int .i64 a916), (3, .int .i32 a917), (40, .bool (true))] (by kernel_rfl) ?_
        exact fun a ha => ⟨true, ha, (hS.re [2, 2, 2] [] rfl (sub_self)), H⟩
      · rw [if_neg h1126] at H
        obtain ⟨h1127, H⟩ := ite_in H
        obtain ⟨h1128, H⟩ := ite_in H
        obtain ⟨ad1129, rfl⟩ := St.deep_some hS 1 rfl h1127 h1128
        obtain ⟨h1132, H⟩ := ite_in H
        obtain ⟨ad1133, rfl⟩ := St.rd_some hS (Rd.own 2 3 rfl) h1127 h1132
        have hS := hS.drew
        refine EW.draw (B := B) (id := 1) (ops := Cd36.r.l.l.ops) [Ass.box 95 g906 [.slice (some ad1129) l907.length C909, .slice (some ad1133) l911.length C913], Ass.own 3 (Kd.int .i64) (some ad1133) C913 l911] [] (by kernel_rfl) (by kernel_rfl) ?_
        have hN : Region.noSelect Cd36.r.l.l.ops = true := (by kernel_rfl)
        have hF : freeAll Cd36.r.l.l.ops = true := (by kernel_rfl)
        have hC : Core B [Ass.box 95 g906 [.slice (some ad1129) l907.length C909, .slice (some ad1133) l911.length C913], Ass.own 3 (Kd.int .i64) (some ad1133) C913 l911] [] _ := ⟨_, _, hS.re [2, 1] [] rfl sub_self⟩
        refine ED.quick hN hF hC [0, 1, 2] [0, 1, 2, 3, 14] 26 [(0, .pointer (some ⟨g906, 0, none⟩)), (1, .int .i64 a915), (2, .int .i64 a916), (3, .int .i32 a917), (14, .bool (decide (a915 < 0)))] #[true, true, true, false, false, false, false, false, false, false, false, false, false, false, false, false, false, false, false, false, false, false, false, false, false, false, false, false, false] (by kernel_rfl) (by kernel_rfl) ?_
        refine ED.keep [0, 1, 2, 3, 14] [(0, .pointer (some ⟨g906, 0, none⟩)), (1, .int .i64 a915), (2, .int .i64 a916), (3, .int .i32 a917), (14, .bool (decide (a915 < 0)))] (by kernel_rfl) ?_
        refine ED.as' [(0, .pointer (some ⟨g906, 0, none⟩)), (1, .int .i64 a915), (2, .int .i64 a916), (3, .int .i32 a917), (14, .bool (false))] (by simp only [dec_f h1125, Bool.not_true, Bool.not_false]) ?_
        refine ED.quick hN hF hC [3, 4, 5, 6] [0, 1, 2, 3, 14, 15, 18] 22 [(0, .pointer (some ⟨g906, 0, none⟩)), (1, .int .i64 a915), (2, .int .i64 a916), (3, .int .i32 a917), (14, .bool (false)), (15, .int .i64 a915), (18, .pointer (some ⟨g906, 0, none⟩))] #[true, true, true, true, true, true, true, false, false, false, false, false, false, false, false, false, false, false, false, false, false, false, false, false, false, false, false, false, false] (by kernel_rfl) (by kernel_rfl) ?_
        refine ED.Y hN hF hC 7 21 #[true, true, true, true, true, true, true, true, false, false, false, false, false, false, false, false, false, false, false, false, false, false, false, false, false, false, false, false, false] (by kernel_rfl) (by kernel_rfl) rfl (fun _ _ _ hS => YO.loadBox hS 0 rfl 73 0 1 (.slice (some ad1129) l907.length C909) 19 (by kernel_rfl) (by kernel_rfl) (by kernel_rfl) (by kernel_rfl)) ?_
        refine ED.quick hN hF hC [8, 9, 10, 11] [0, 1, 2, 3, 23] 17 [(0, .pointer (some ⟨g906, 0, none⟩)), (1, .int .i64 a915), (2, .int .i64 a916), (3, .int .i32 a917), (23, .bool (decide (a915 ≥ (l907.length : Int))))] #[true, true, true, true, true, true, true, true, true, true, true, true, false, false, false, false, false, false, false, false, false, false, false, false, false, false, false, false, false] (by kernel_rfl) (by kernel_rfl) ?_
        refine ED.keep [0, 1, 2, 3, 23] [(0, .pointer (some ⟨g906, 0, none⟩)), (1, .int .i64 a915), (2, .int .i64 a916), (3, .int .i32 a917), (23, .bool (decide (a915 ≥ (l907.length : Int))))] (by kernel_rfl) ?_
        refine ED.as' [(0, .pointer (some ⟨g906, 0, none⟩)), (1, .int .i64 a915), (2, .int .i64 a916), (3, .int .i32 a917), (23, .bool (false))] (by simp only [dec_f h1126, Bool.not_true, Bool.not_false]) ?_
        refine ED.quick hN hF hC [12, 13, 14, 16, 20, 21, 22, 24] [0, 1, 2, 3, 23, 26, 28, 34, 36] 9 [(0, .pointer (some ⟨g906, 0, none⟩)), (1, .int .i64 a915), (2, .int .i64 a916), (3, .int .i32 a917), (23, .bool (false)), (26, .pointer (some ⟨g906, 0, none⟩)), (28, .int .i64 a915), (34, .pointer (some ⟨g906, 1, none⟩)), (36, .int .i64 a915)] #[true, true, true, true, true, true, true, true, true, true, true, true, true, true, true, false, true, false, false, false, true, true, true, false, true, false, false, false, false] (by kernel_rfl) (by kernel_rfl) ?_
        refine ED.Y hN hF hC 15 8 #[true, true, true, true, true, true, true, true, true, true, true, true, true, true, true, true, true, false, false, false, true, true, true, false, true, false, false, false, false] (by kernel_rfl) (by kernel_rfl) rfl (fun _ _ _ hS => YO.loadBox hS 0 rfl 73 0 1 (.slice (some ad1129) l907.length C909) 27 (by kernel_rfl) (by kernel_rfl) (by kernel_rfl) (by kernel_rfl)) ?_
        refine ED.Y hN hF hC 17 7 #[true, true, true, true, true, true, true, true, true, true, true, true, true, true, true, true, true, true, false, false, true, true, true, false, true, false, false, false, false] (by kernel_rfl) (by kernel_rfl) rfl (fun _ _ _ hS => YO.idx 73 1 ad1129 l907.length C909 .i64 a915 29 (by kernel_rfl) (by kernel_rfl) (by kernel_rfl) (by kernel_rfl) h1127 h1128) ?_
        refine ED.Y hN hF hC 23 6 #[true, true, true, true, true, true, true, true, true, true, true, true, true, true, true, true, true, true, false, false, true, true, true, true, true, false, false, false, false] (by kernel_rfl) (by kernel_rfl) rfl (fun _ _ _ hS => YO.loadBox hS 0 rfl 24 1 1 (.slice (some ad1133) l911.length C913) 35 (by kernel_rfl) (by kernel_rfl) (by kernel_rfl) (by kernel_rfl)) ?_
        refine ED.Y hN hF hC 25 5 #[true, true, true, true, true, true, true, true, true, true, true, true, true, true, true, true, true, true, false, false, true, true, true, true, true, true, false, false, false] (by kernel_rfl) (by kernel_rfl) rfl (fun _ _ _ hS => YO.idx 24 1 ad1133 l911.length C913 .i64 a915 37 (by kernel_rfl) (by kernel_rfl) (by kernel_rfl) (by kernel_rfl) h1127 h1132) ?_
        refine ED.Y hN hF hC 26 4 #[true, true, true, true, true, true, true, true, true, true, true, true, true, true, true, true, true, true, false, false, true, true, true, true, true, true, true, false, false] (by kernel_rfl) (by kernel_rfl) rfl (fun _ _ _ hS => YO.loadEl hS (Kd.int .i64) ad1133 C913 l911 (Rd.own 1 3 rfl) 0 (encI .i64) encI_of a915 h1127 h1132 3 1 0 1 rfl (.int .i64 (l911.getD a915.toNat 0)) 38 (by kernel_rfl) (by kernel_rfl) (by kernel_rfl) (by kernel_rfl)) ?_
        refine ED.one 18 3 #[true, true, true, true, true, true, true, true, true, true, true, true, true, true, true, true, true, true, true, false, true, true, true, true, true, true, true, false, false] (by kernel_rfl) (by kernel_rfl) (by kernel_rfl) (EO.openEl hS 1 ad1129 rfl a915 h1127 h1128 (fun A1136 C1137 => Ass.box 95 g906 [.slice (some ad1129) l907.length C909, .slice (some ad1133) l911.length C913] :: Ass.holed 76 69 kS69 (some ad1129) C909 l907 a915.toNat (A1136, (l907.getD a915.toNat []).length, C1137) :: Ass.own 3 (Kd.int .i64) (some ad1133) C913 l911 :: os) 76 30 (by kernel_rfl) (by kernel_rfl) (by kernel_rfl) (by kernel_rfl) (fun _ _ => rfl) ?_)
        intro A1136 C1137 hS
        have hC : Core B [Ass.box 95 g906 [.slice (some ad1129) l907.length C909, .slice (some ad1133) l911.length C913], Ass.own 3 (Kd.int .i64) (some ad1133) C913 l911] [] _ := ⟨_, _, hS.re [3, 2] [] rfl sub_self⟩
        refine ⟨hC, ?_⟩
        refine ED.quick hN hF hC [19, 27, 28] [0, 1, 2, 3, 40] 0 [(0, .pointer (some ⟨g906, 0, none⟩)), (1, .int .i64 a915), (2, .int .i64 a916), (3, .int .i32 a917), (40, .bool (decide (((l907.getD a915.toNat []).length : Int) ≥ (l911.getD a915.toNat 0))))] #[true, true, true, true, true, true, true, true, true, true, true, true, true, true, true, true, true, true, true, true, true, true, true, true, true, true, true, true, true] (by kernel_rfl) (by kernel_rfl) ?_
        refine ED.done (by kernel_rfl) ?_
        refine EQ.to ?_
        have hS := St.as (os' := Ass.box 95 g906 [.slice (some ad1129) l907.length C909, .slice (some ad1133) l911.length C913] :: Ass.deep 76 69 kS69 (some ad1129) C909 l907 :: Ass.own 3 (Kd.int .i64) (some ad1133) C913 l911 :: os) (St.close hS 0 1 rfl rfl rfl l907 (set_getD _ _)) rfl
        refine EQ.keep [0, 1, 2, 3, 40] [(0, .pointer (some ⟨g906, 0, none⟩)), (1, .int .i64 a915), (2, .int .i64 a916), (3, .int .i32 a917), (40, .bool (decide (((l907.getD a915.toNat []).length : Int) ≥ (l911.getD a915.toNat 0))))] (by kernel_rfl) ?_
        exact fun a ha => ⟨decide (((l907.getD a915.toNat []).length : Int) ≥ (l911.getD a915.toNat 0)), ha, (hS.re [2, 2, 2] [] rfl (sub_self)), H⟩
  · obtain ⟨x1123, ha, hS, H⟩ := hI
    rw [hj1124] at H
    (try dsimp only at H)
    refine EW.at ?_ a ha
    clear ha a
    refine EW.condP' (o := (.tmp 40)) (x := Cd36.r.l.r.l) (y := Cd36.r.l.r.r) (x1123) (by kernel_rfl) (by kernel_rfl) (fun h1138 => ?_) (fun h1138 => ?_)
    · rw [if_pos h1138] at H
      refine EW.seq (x := Cd36.r.l.r.l.l) (y := Cd36.r.l.r.l.r) (by kernel_rfl) ?_
      refine EW.region (id := 2) (ops := Cd36.r.l.r.l.l.ops) (by kernel_rfl) ?_
      refine EL.quick 2 [8, 9] [(8, .int .i32 0), (9, .bool (false))] (by kernel_rfl) ?_
      refine EL.done (by kernel_rfl) ?_
      refine EQ.code ?_
      refine EW.ret (by kernel_rfl) ?_
      refine EQ.ret ?_
      simp only [Option.some.injEq, Prod.mk.injEq] at H
      obtain ⟨rfl, rfl, rfl⟩ := H
      exact EQ.leave (.tuple #[.int .i32 0, .bool (false)]) (by kernel_rfl) ⟨_, rfl, A908, C909, rfl, (hS.re [2, 2, 2] [] rfl (sub_self))⟩
    · rw [if_neg h1138] at H
      refine EW.skip (by kernel_rfl) ?_
      refine EQ.code ?_
      refine EW.seq (x := Cd36.r.r.l) (y := Cd36.r.r.r) (by kernel_rfl) ?_
      refine EW.region (id := 3) (ops := Cd36.r.r.l.ops) (by kernel_rfl) ?_
      refine EL.quick 4 [0, 1, 2, 3, 42, 45] [(0, .pointer (some ⟨g906, 0, none⟩)), (1, .int .i64 a915), (2, .int .i64 a916), (3, .int .i32 a917), (42, .int .i64 a915), (45, .pointer (some ⟨g906, 0, none⟩))] (by kernel_rfl) ?_
      refine EL.of (EO.Y (YO.loadBox hS 0 rfl 73 0 1 (.slice A908 l907.length C909) 46 (by kernel_rfl) (by kernel_rfl) (by kernel_rfl) (by kernel_rfl)) ?_)
      refine EL.quick 1 [0, 1, 2, 3, 42, 46, 47] [(0, .pointer (some ⟨g906, 0, none⟩)), (1, .int .i64 a915), (2, .int .i64 a916), (3, .int .i32 a917), (42, .int .i64 a915), (46, .slice A908 l907.length C909), (47, .int .i64 a915)] (by kernel_rfl) ?_
      obtain ⟨h1147, H⟩ := ite_in H
      obtain ⟨h1148, H⟩ := ite_in H
      obtain ⟨ad1149, rfl⟩ := St.deep_some hS 1 rfl h1147 h1148
      refine EL.of (EO.Y (YO.idx 73 1 ad1149 l907.length C909 .i64 a915 48 (by kernel_rfl) (by kernel_rfl) (by kernel_rfl) (by kernel_rfl) h1147 h1148) ?_)
      refine EL.of (EO.openEl hS 1 ad1149 rfl a915 h1147 h1148 (fun A1150 C1151 => Ass.box 95 g906 [.slice (some ad1149) l907.length C909, .slice A912 l911.length C913] :: Ass.holed 76 69 kS69 (some ad1149) C909 l907 a915.toNat (A1150, (l907.getD a915.toNat []).length, C1151) :: Ass.own 3 (Kd.int .i64) A912 C913 l911 :: os) 76 49 (by kernel_rfl) (by kernel_rfl) (by kernel_rfl) (by kernel_rfl) (fun _ _ => rfl) ?_)
      intro A1150 C1151 hS
      refine EL.quick 1 [0, 1, 2, 3, 42, 50] [(0, .pointer (some ⟨g906, 0, none⟩)), (1, .int .i64 a915), (2, .int .i64 a916), (3, .int .i32 a917), (42, .int .i64 a915), (50, .int .i64 ((l907.getD a915.toNat []).length : Int))] (by kernel_rfl) ?_
      obtain ⟨t1152, t1153, hc1154, H⟩ := b2_out H
      refine EL.of (EO.callD 51 [.int .i64 a915, .int .i64 ((l907.getD a915.toNat []).length : Int)] _ 51 (by kernel_rfl) (by kernel_rfl) (by kernel_rfl) (ident_Of.calls hc1154 hS) ?_)
      rintro v w ⟨rfl, hS⟩
      refine EL.quick 5 [0, 1, 2, 3, 10, 11] [(0, .pointer (some ⟨g906, 0, none⟩)), (1, .int .i64 a915), (2, .int .i64 a916), (3, .int .i32 a917), (10, .int .i32 t1152), (11, .bool (t1153))] (by kernel_rfl) ?_
      refine EL.done (by kernel_rfl) ?_
      refine EQ.code ?_
      refine EW.seq (x := Cd36.r.r.r.l) (y := Cd36.r.r.r.r) (by kernel_rfl) ?_
      obtain ⟨l1163, hl1163, H⟩ := lt_out H
      obtain ⟨h1164, H⟩ := ite_in H
      obtain ⟨l1165, hl1165, H⟩ := lt_out H
      obtain ⟨l1168, hl1168, H⟩ := lt_out H
      refine EW.meet (id := 4) (ops := Cd36.r.r.r.l.ops) (fun a w => ∃ A1208 : Option Addr, ∃ C1209 : Nat, Sat 74 [(10, .int .i32 t1152), (11, .bool (t1153))] a ∧ St B w (Ass.own 69 kS69 A1208 C1209 l1163 :: Ass.box 95 g906 [.slice (some ad1149) l1168.length C909, .slice A912 l911.length C913] :: Ass.deep 76 69 kS69 (some ad1149) C909 l1168 :: Ass.own 3 (Kd.int .i64) A912 C913 l911 :: os) (rs)) (by kernel_rfl) ?_ (fun a w hI => ?_)
      · have hS := hS.drew
        refine EW.draw (B := B) (id := 4) (ops := Cd36.r.r.r.l.ops) [Ass.own 3 (Kd.int .i64) A912 C913 l911] [] (by kernel_rfl) (by kernel_rfl) ?_
        have hN : Region.noSelect Cd36.r.r.r.l.ops = true := (by kernel_rfl)
        have hF : freeAll Cd36.r.r.r.l.ops = true := (by kernel_rfl)
        have hC : Core B [Ass.own 3 (Kd.int .i64) A912 C913 l911] [] _ := ⟨_, _, hS.re [3] [] rfl sub_self⟩
        refine ED.quick hN hF hC [0, 1, 2, 4, 5, 6, 7, 9, 12, 13, 14] [10, 11, 56, 58, 61, 63, 68] 8 [(10, .int .i32 t1152), (11, .bool (t1153)), (56, .pointer (some ⟨g906, 0, none⟩)), (58, .int .i64 a915), (61, .pointer (some ⟨g906, 0, none⟩)), (63, .int .i64 a915), (68, .agg #[.int .i64 a916, .int .i32 a917])] #[true, true, true, false, true, true, true, true, false, true, false, false, true, true, true, false, false, false, false] (by kernel_rfl) (by kernel_rfl) ?_
        refine ED.many 3 [8, 15] 7 (by kernel_rfl) (by kernel_rfl) (Each.cons ?_ (Each.cons ?_ (Each.cons ?_ Each.nil)))
        · refine EO.Y (YO.loadBox hS 1 rfl 73 0 1 (.slice (some ad1149) l907.length C909) 57 (by kernel_rfl) (by kernel_rfl) (by kernel_rfl) (by kernel_rfl)) ?_
          have hC : Core B [Ass.own 3 (Kd.int .i64) A912 C913 l911] [] _ := ⟨_, _, hS.re [3] [] rfl sub_self⟩
          refine ⟨hC, ?_⟩
          refine ED.at' #[true, true, true, true, true, true, true, true, false, true, false, false, true, true, true, false, false, false, false] (by kernel_rfl) ?_
          refine ED.two 8 15 6 (by kernel_rfl) (by kernel_rfl) ?_ ?_
          · refine EO.Y (YO.loadBox hS 1 rfl 73 0 1 (.slice (some ad1149) l907.length C909) 62 (by kernel_rfl) (by kernel_rfl) (by kernel_rfl) (by kernel_rfl)) ?_
            have hC : Core B [Ass.own 3 (Kd.int .i64) A912 C913 l911] [] _ := ⟨_, _, hS.re [3] [] rfl sub_self⟩
            refine ⟨hC, ?_⟩
            refine ED.at' #[true, true, true, true, true, true, true, true, true, true, false, false, true, true, true, false, false, false, false] (by kernel_rfl) ?_
            refine ED.Y hN hF hC 10 5 #[true, true, true, true, true, true, true, true, true, true, true, false, true, true, true, false, false, false, false] (by kernel_rfl) (by kernel_rfl) rfl (fun _ _ _ hS => YO.idx 73 1 ad1149 l907.length C909 .i64 a915 64 (by kernel_rfl) (by kernel_rfl) (by kernel_rfl) (by kernel_rfl) h1147 h1148) ?_
            refine ED.two 11 15 4 (by kernel_rfl) (by kernel_rfl) ?_ ?_
            · refine EO.Y (YO.loadHole hS 2 ad1149 (j := a915) rfl h1147 76 65 (by kernel_rfl) (by kernel_rfl) (by kernel_rfl) (by kernel_rfl)) ?_
              have hC : Core B [Ass.own 3 (Kd.int .i64) A912 C913 l911] [] _ := ⟨_, _, hS.re [3] [] rfl sub_self⟩
              refine ⟨hC, ?_⟩
              refine ED.at' #[true, true, true, true, true, true, true, true, true, true, true, true, true, true, true, false, false, false, false] (by kernel_rfl) ?_
              refine ED.one 15 3 #[true, true, true, true, true, true, true, true, true, true, true, true, true, true, true, true, false, false, false] (by kernel_rfl) (by kernel_rfl) (by kernel_rfl) (EO.lit hS kS69 69 76 1 #[(0, .agg #[.int .i64 a916, .int .i32 a917])] [.int .i64 a916, .int .i32 a917] l1163 69 (by kernel_rfl) (by kernel_rfl) (by kernel_rfl) (fun _ => (by kernel_rfl)) (by rw [hl1163]; rfl) (by kernel_rfl) (fun w G hr => (by rw [hl1163]; exact ⟨[.int .i64 a916, .int .i32 a917], [], rfl, ⟨[.int .i64 a916], [.int .i32 a917], rfl, rfl, ⟨[.int .i32 a917], [], rfl, rfl, rfl⟩⟩, rfl⟩)) ?_)
              intro g1210 w hS
              have hC : Core B [Ass.own 3 (Kd.int .i64) A912 C913 l911] [] _ := ⟨_, _, hS.re [4] [] rfl sub_self⟩
              refine ⟨hC, ?_⟩
              refine ED.one 16 2 #[true, true, true, true, true, true, true, true, true, true, true, true, true, true, true, true, true, false, false] (by kernel_rfl) (by kernel_rfl) (by kernel_rfl) (EO.append hS 76 76 69 16 1 kS69 A1150 C1151 (l907.getD a915.toNat []) rfl (some ⟨g1210, 0, none⟩) 1 l1163 (Rd.own 0 69 rfl) l1165 hl1165 (fun A1211 C1212 => Ass.own 69 kS69 (some ⟨g1210, 0, none⟩) 1 l1163 :: Ass.own 69 kS69 A1211 C1212 l1165 :: Ass.box 95 g906 [.slice (some ad1149) l907.length C909, .slice A912 l911.length C913] :: Ass.holed 76 69 kS69 (some ad1149) C909 l907 a915.toNat (A1150, (l907.getD a915.toNat []).length, C1151) :: Ass.own 3 (Kd.int .i64) A912 C913 l911 :: os) 70 (by kernel_rfl) (by kernel_rfl) (by kernel_rfl) (by kernel_rfl) h1164 (fun _ _ => rfl) ?_)
              intro A1211 C1212 w hS
              have hC : Core B [Ass.own 3 (Kd.int .i64) A912 C913 l911] [] _ := ⟨_, _, hS.re [4] [] rfl sub_self⟩
              refine ⟨hC, ?_⟩
              refine ED.Y hN hF hC 17 1 #[true, true, true, true, true, true, true, true, true, true, true, true, true, true, true, true, true, true, false] (by kernel_rfl) (by kernel_rfl) rfl (fun _ _ _ hS => YO.idx 73 1 ad1149 l907.length C909 .i64 a915 71 (by kernel_rfl) (by kernel_rfl) (by kernel_rfl) (by kernel_rfl) h1147 h1148) ?_
              refine ED.one 18 0 #[true, true, true, true, true, true, true, true, true, true, true, true, true, true, true, true, true, true, true] (by kernel_rfl) (by kernel_rfl) (by kernel_rfl) (EO.closeEl hS 1 2 ad1149 a915 rfl rfl h1147 l1168 hl1168 (Ass.own 69 kS69 (some ⟨g1210, 0, none⟩) 1 l1163 :: Ass.box 95 g906 [.slice (some ad1149) l907.length C909, .slice A912 l911.length C913] :: Ass.deep 76 69 kS69 (some ad1149) C909 l1168 :: Ass.own 3 (Kd.int .i64) A912 C913 l911 :: os) 76 (by kernel_rfl) (by kernel_rfl) (by kernel_rfl) (by kernel_rfl) rfl ?_)
              intro w hS
              have hS : St B w (Ass.own 69 kS69 (some ⟨g1210, 0, none⟩) 1 l1163 :: Ass.box 95 g906 [.slice (some ad1149) l1168.length C909, .slice A912 l911.length C913] :: Ass.deep 76 69 kS69 (some ad1149) C909 l1168 :: Ass.own 3 (Kd.int .i64) A912 C913 l911 :: os) (rs) := by simpa only [hl1168, List.length_set] using hS
              have hC : Core B [Ass.own 3 (Kd.int .i64) A912 C913 l911] [] _ := ⟨_, _, hS.re [3] [] rfl sub_self⟩
              refine ⟨hC, ?_⟩
              refine ED.keep [10, 11, 56, 57, 58, 61, 62, 63, 64, 68, 69, 71] [(10, .int .i32 t1152), (11, .bool (t1153)), (56, .pointer (some ⟨g906, 0, none⟩)), (57, .slice (some ad1149) l907.length C909), (58, .int .i64 a915), (61, .pointer (some ⟨g906, 0, none⟩)), (62, .slice (some ad1149) l907.length C909), (63, .int .i64 a915), (64, .pointer (some ((ad1149.add (a915.toNat * 1)).add 0))), (68, .agg #[.int .i64 a916, .int .i32 a917]), (69, .slice (some ⟨g1210, 0, none⟩) l1163.length 1), (71, .pointer (some ((ad1149.add (a915.toNat * 1)).add 0)))] (by kernel_rfl) ?_
              refine ED.as' [(10, .int .i32 t1152), (11, .bool (t1153)), (56, .pointer (some ⟨g906, 0, none⟩)), (57, .slice (some ad1149) l1168.length C909), (58, .int .i64 a915), (61, .pointer (some ⟨g906, 0, none⟩)), (62, .slice (some ad1149) l1168.length C909), (63, .int .i64 a915), (64, .pointer (some ((ad1149.add (a915.toNat * 1)).add 0))), (68, .agg #[.int .i64 a916, .int .i32 a917]), (69, .slice (some ⟨g1210, 0, none⟩) l1163.length 1), (71, .pointer (some ((ad1149.add (a915.toNat * 1)).add 0)))] (by simp only [hl1168, List.length_set]) ?_
              refine ED.done (by kernel_rfl) ?_
              refine EQ.to ?_
              refine EQ.keep [10, 11] [(10, .int .i32 t1152), (11, .bool (t1153))] (by kernel_rfl) ?_
              exact fun a ha => ⟨(some ⟨g1210, 0, none⟩), 1, ha, (hS.re [3, 3, 3, 3] [] rfl (sub_self))⟩
            · refine EO.lit hS kS69 69 76 1 #[(0, .agg #[.int .i64 a916, .int .i32 a917])] [.int .i64 a916, .int .i32 a917] l1163 69 (by kernel_rfl) (by kernel_rfl) (by kernel_rfl) (fun _ => (by kernel_rfl)) (by rw [hl1163]; rfl) (by kernel_rfl) (fun w G hr => (by rw [hl1163]; exact ⟨[.int .i64 a916, .int .i32 a917], [], rfl, ⟨[.int .i64 a916], [.int .i32 a917], rfl, rfl, ⟨[.int .i32 a917], [], rfl, rfl, rfl⟩⟩, rfl⟩)) ?_
              intro g1213 w hS
              have hC : Core B [Ass.own 3 (Kd.int .i64) A912 C913 l911] [] _ := ⟨_, _, hS.re [4] [] rfl sub_self⟩
              refine ⟨hC, ?_⟩
              refine ED.at' #[true, true, true, true, true, true, true, true, true, true, true, false, true, true, true, true, false, false, false] (by kernel_rfl) ?_
              refine ED.one 11 3 #[true, true, true, true, true, true, true, true, true, true, true, true, true, true, true, true, false, false, false] (by kernel_rfl) (by kernel_rfl) (by kernel_rfl) (EO.Y (YO.loadHole hS 3 ad1149 (j := a915) rfl h1147 76 65 (by kernel_rfl) (by kernel_rfl) (by kernel_rfl) (by kernel_rfl)) ?_)
              have hC : Core B [Ass.own 3 (Kd.int .i64) A912 C913 l911] [] _ := ⟨_, _, hS.re [4] [] rfl sub_self⟩
              refine ⟨hC, ?_⟩
              refine ED.one 16 2 #[true, true, true, true, true, true, true, true, true, true, true, true, true, true, true, true, true, false, false] (by kernel_rfl) (by kernel_rfl) (by kernel_rfl) (EO.append hS 76 76 69 16 1 kS69 A1150 C1151 (l907.getD a915.toNat []) rfl (some ⟨g1213, 0, none⟩) 1 l1163 (Rd.own 0 69 rfl) l1165 hl1165 (fun A1214 C1215 => Ass.own 69 kS69 (some ⟨g1213, 0, none⟩) 1 l1163 :: Ass.own 69 kS69 A1214 C1215 l1165 :: Ass.box 95 g906 [.slice (some ad1149) l907.length C909, .slice A912 l911.length C913] :: Ass.holed 76 69 kS69 (some ad1149) C909 l907 a915.toNat (A1150, (l907.getD a915.toNat []).length, C1151) :: Ass.own 3 (Kd.int .i64) A912 C913 l911 :: os) 70 (by kernel_rfl) (by kernel_rfl) (by kernel_rfl) (by kernel_rfl) h1164 (fun _ _ => rfl) ?_)
              intro A1214 C1215 w hS
              have hC : Core B [Ass.own 3 (Kd.int .i64) A912 C913 l911] [] _ := ⟨_, _, hS.re [4] [] rfl sub_self⟩
              refine ⟨hC, ?_⟩
              refine ED.Y hN hF hC 17 1 #[true, true, true, true, true, true, true, true, true, true, true, true, true, true, true, true, true, true, false] (by kernel_rfl) (by kernel_rfl) rfl (fun _ _ _ hS => YO.idx 73 1 ad1149 l907.length C909 .i64 a915 71 (by kernel_rfl) (by kernel_rfl) (by kernel_rfl) (by kernel_rfl) h1147 h1148) ?_
              refine ED.one 18 0 #[true, true, true, true, true, true, true, true, true, true, true, true, true, true, true, true, true, true, true] (by kernel_rfl) (by kernel_rfl) (by kernel_rfl) (EO.closeEl hS 1 2 ad1149 a915 rfl rfl h1147 l1168 hl1168 (Ass.own 69 kS69 (some ⟨g1213, 0, none⟩) 1 l1163 :: Ass.box 95 g906 [.slice (some ad1149) l907.length C909, .slice A912 l911.length C913] :: Ass.deep 76 69 kS69 (some ad1149) C909 l1168 :: Ass.own 3 (Kd.int .i64) A912 C913 l911 :: os) 76 (by kernel_rfl) (by kernel_rfl) (by kernel_rfl) (by kernel_rfl) rfl ?_)
              intro w hS
              have hS : St B w (Ass.own 69 kS69 (some ⟨g1213, 0, none⟩) 1 l1163 :: Ass.box 95 g906 [.slice (some ad1149) l1168.length C909, .slice A912 l911.length C913] :: Ass.deep 76 69 kS69 (some ad1149) C909 l1168 :: Ass.own 3 (Kd.int .i64) A912 C913 l911 :: os) (rs) := by simpa only [hl1168, List.length_set] using hS
              have hC : Core B [Ass.own 3 (Kd.int .i64) A912 C913 l911] [] _ := ⟨_, _, hS.re [3] [] rfl sub_self⟩
              refine ⟨hC, ?_⟩
              refine ED.keep [10, 11, 56, 57, 58, 61, 62, 63, 64, 68, 69, 71] [(10, .int .i32 t1152), (11, .bool (t1153)), (56, .pointer (some ⟨g906, 0, none⟩)), (57, .slice (some ad1149) l907.length C909), (58, .int .i64 a915), (61, .pointer (some ⟨g906, 0, none⟩)), (62, .slice (some ad1149) l907.length C909), (63, .int .i64 a915), (64, .pointer (some ((ad1149.add (a915.toNat * 1)).add 0))), (68, .agg #[.int .i64 a916, .int .i32 a917]), (69, .slice (some ⟨g1213, 0, none⟩) l1163.length 1), (71, .pointer (some ((ad1149.add (a915.toNat * 1)).add 0)))] (by kernel_rfl) ?_
              refine ED.as' [(10, .int .i32 t1152), (11, .bool (t1153)), (56, .pointer (some ⟨g906, 0, none⟩)), (57, .slice (some ad1149) l1168.length C909), (58, .int .i64 a915), (61, .pointer (some ⟨g906, 0, none⟩)), (62, .slice (some ad1149) l1168.length C909), (63, .int .i64 a915), (64, .pointer (some ((ad1149.add (a915.toNat * 1)).add 0))), (68, .agg #[.int .i64 a916, .int .i32 a917]), (69, .slice (some ⟨g1213, 0, none⟩) l1163.length 1), (71, .pointer (some ((ad1149.add (a915.toNat * 1)).add 0)))] (by simp only [hl1168, List.length_set]) ?_
              refine ED.done (by kernel_rfl) ?_
              refine EQ.to ?_
              refine EQ.keep [10, 11] [(10, .int .i32 t1152), (11, .bool (t1153))] (by kernel_rfl) ?_
              exact fun a ha => ⟨(some ⟨g1213, 0, none⟩), 1, ha, (hS.re [3, 3, 3, 3] [] rfl (sub_self))⟩
          · refine EO.lit hS kS69 69 76 1 #[(0, .agg #[.int .i64 a916, .int .i32 a917])] [.int .i64 a916, .int .i32 a917] l1163 69 (by kernel_rfl) (by kernel_rfl) (by kernel_rfl) (fun _ => (by kernel_rfl)) (by rw [hl1163]; rfl) (by kernel_rfl) (fun w G hr => (by rw [hl1163]; exact ⟨[.int .i64 a916, .int .i32 a917], [], rfl, ⟨[.int .i64 a916], [.int .i32 a917], rfl, rfl, ⟨[.int .i32 a917], [], rfl, rfl, rfl⟩⟩, rfl⟩)) ?_
            intro g1216 w hS
            have hC : Core B [Ass.own 3 (Kd.int .i64) A912 C913 l911] [] _ := ⟨_, _, hS.re [4] [] rfl sub_self⟩
            refine ⟨hC, ?_⟩
            refine ED.at' #[true, true, true, true, true, true, true, true, false, true, false, false, true, true, true, true, false, false, false] (by kernel_rfl) ?_
            refine ED.one 8 5 #[true, true, true, true, true, true, true, true, true, true, false, false, true, true, true, true, false, false, false] (by kernel_rfl) (by kernel_rfl) (by kernel_rfl) (EO.Y (YO.loadBox hS 2 rfl 73 0 1 (.slice (some ad1149) l907.length C909) 62 (by kernel_rfl) (by kernel_rfl) (by kernel_rfl) (by kernel_rfl)) ?_)
            have hC : Core B [Ass.own 3 (Kd.int .i64) A912 C913 l911] [] _ := ⟨_, _, hS.re [4] [] rfl sub_self⟩
            refine ⟨hC, ?_⟩
            refine ED.Y hN hF hC 10 4 #[true, true, true, true, true, true, true, true, true, true, true, false, true, true, true, true, false, false, false] (by kernel_rfl) (by kernel_rfl) rfl (fun _ _ _ hS => YO.idx 73 1 ad1149 l907.length C909 .i64 a915 64 (by kernel_rfl) (by kernel_rfl) (by kernel_rfl) (by kernel_rfl) h1147 h1148) ?_
            refine ED.one 11 3 #[true, true, true, true, true, true, true, true, true, true, true, true, true, true, true, true, false, false, false] (by kernel_rfl) (by kernel_rfl) (by kernel_rfl) (EO.Y (YO.loadHole hS 3 ad1149 (j := a915) rfl h1147 76 65 (by kernel_rfl) (by kernel_rfl) (by kernel_rfl) (by kernel_rfl)) ?_)
            have hC : Core B [Ass.own 3 (Kd.int .i64) A912 C913 l911] [] _ := ⟨_, _, hS.re [4] [] rfl sub_self⟩
            refine ⟨hC, ?_⟩
            refine ED.one 16 2 #[true, true, true, true, true, true, true, true, true, true, true, true, true, true, true, true, true, false, false] (by kernel_rfl) (by kernel_rfl) (by kernel_rfl) (EO.append hS 76 76 69 16 1 kS69 A1150 C1151 (l907.getD a915.toNat []) rfl (some ⟨g1216, 0, none⟩) 1 l1163 (Rd.own 0 69 rfl) l1165 hl1165 (fun A1217 C1218 => Ass.own 69 kS69 (some ⟨g1216, 0, none⟩) 1 l1163 :: Ass.own 69 kS69 A1217 C1218 l1165 :: Ass.box 95 g906 [.slice (some ad1149) l907.length C909, .slice A912 l911.length C913] :: Ass.holed 76 69 kS69 (some ad1149) C909 l907 a915.toNat (A1150, (l907.getD a915.toNat []).length, C1151) :: Ass.own 3 (Kd.int .i64) A912 C913 l911 :: os) 70 (by kernel_rfl) (by kernel_rfl) (by kernel_rfl) (by kernel_rfl) h1164 (fun _ _ => rfl) ?_)
            intro A1217 C1218 w hS
            have hC : Core B [Ass.own 3 (Kd.int .i64) A912 C913 l911] [] _ := ⟨_, _, hS.re [4] [] rfl sub_self⟩
            refine ⟨hC, ?_⟩
            refine ED.Y hN hF hC 17 1 #[true, true, true, true, true, true, true, true, true, true, true, true, true, true, true, true, true, true, false] (by kernel_rfl) (by kernel_rfl) rfl (fun _ _ _ hS => YO.idx 73 1 ad1149 l907.length C909 .i64 a915 71 (by kernel_rfl) (by kernel_rfl) (by kernel_rfl) (by kernel_rfl) h1147 h1148) ?_
            refine ED.one 18 0 #[true, true, true, true, true, true, true, true, true, true, true, true, true, true, true, true, true, true, true] (by kernel_rfl) (by kernel_rfl) (by kernel_rfl) (EO.closeEl hS 1 2 ad1149 a915 rfl rfl h1147 l1168 hl1168 (Ass.own 69 kS69 (some ⟨g1216, 0, none⟩) 1 l1163 :: Ass.box 95 g906 [.slice (some ad1149) l907.length C909, .slice A912 l911.length C913] :: Ass.deep 76 69 kS69 (some ad1149) C909 l1168 :: Ass.own 3 (Kd.int .i64) A912 C913 l911 :: os) 76 (by kernel_rfl) (by kernel_rfl) (by kernel_rfl) (by kernel_rfl) rfl ?_)
            intro w hS
            have hS : St B w (Ass.own 69 kS69 (some ⟨g1216, 0, none⟩) 1 l1163 :: Ass.box 95 g906 [.slice (some ad1149) l1168.length C909, .slice A912 l911.length C913] :: Ass.deep 76 69 kS69 (some ad1149) C909 l1168 :: Ass.own 3 (Kd.int .i64) A912 C913 l911 :: os) (rs) := by simpa only [hl1168, List.length_set] using hS
            have hC : Core B [Ass.own 3 (Kd.int .i64) A912 C913 l911] [] _ := ⟨_, _, hS.re [3] [] rfl sub_self⟩
            refine ⟨hC, ?_⟩
            refine ED.keep [10, 11, 56, 57, 58, 61, 62, 63, 64, 68, 69, 71] [(10, .int .i32 t1152), (11, .bool (t1153)), (56, .pointer (some ⟨g906, 0, none⟩)), (57, .slice (some ad1149) l907.length C909), (58, .int .i64 a915), (61, .pointer (some ⟨g906, 0, none⟩)), (62, .slice (some ad1149) l907.length C909), (63, .int .i64 a915), (64, .pointer (some ((ad1149.add (a915.toNat * 1)).add 0))), (68, .agg #[.int .i64 a916, .int .i32 a917]), (69, .slice (some ⟨g1216, 0, none⟩) l1163.length 1), (71, .pointer (some ((ad1149.add (a915.toNat * 1)).add 0)))] (by kernel_rfl) ?_
            refine ED.as' [(10, .int .i32 t1152), (11, .bool (t1153)), (56, .pointer (some ⟨g906, 0, none⟩)), (57, .slice (some ad1149) l1168.length C909), (58, .int .i64 a915), (61, .pointer (some ⟨g906, 0, none⟩)), (62, .slice (some ad1149) l1168.length C909), (63, .int .i64 a915), (64, .pointer (some ((ad1149.add (a915.toNat * 1)).add 0))), (68, .agg #[.int .i64 a916, .int .i32 a917]), (69, .slice (some ⟨g1216, 0, none⟩) l1163.length 1), (71, .pointer (some ((ad1149.add (a915.toNat * 1)).add 0)))] (by simp only [hl1168, List.length_set]) ?_
            refine ED.done (by kernel_rfl) ?_
            refine EQ.to ?_
            refine EQ.keep [10, 11] [(10, .int .i32 t1152), (11, .bool (t1153))] (by kernel_rfl) ?_
            exact fun a ha => ⟨(some ⟨g1216, 0, none⟩), 1, ha, (hS.re [3, 3, 3, 3] [] rfl (sub_self))⟩
        · refine EO.Y (YO.loadBox hS 1 rfl 73 0 1 (.slice (some ad1149) l907.length C909) 62 (by kernel_rfl) (by kernel_rfl) (by kernel_rfl) (by kernel_rfl)) ?_
          have hC : Core B [Ass.own 3 (Kd.int .i64) A912 C913 l911] [] _ := ⟨_, _, hS.re [3] [] rfl sub_self⟩
          refine ⟨hC, ?_⟩
          refine ED.at' #[true, true, true, false, true, true, true, true, true, true, false, false, true, true, true, false, false, false, false] (by kernel_rfl) ?_
          refine ED.Y hN hF hC 10 6 #[true, true, true, false, true, true, true, true, true, true, true, false, true, true, true, false, false, false, false] (by kernel_rfl) (by kernel_rfl) rfl (fun _ _ _ hS => YO.idx 73 1 ad1149 l907.length C909 .i64 a915 64 (by kernel_rfl) (by kernel_rfl) (by kernel_rfl) (by kernel_rfl) h1147 h1148) ?_
          refine ED.many 3 [11, 15] 5 (by kernel_rfl) (by kernel_rfl) (Each.cons ?_ (Each.cons ?_ (Each.cons ?_ Each.nil)))
          · refine EO.Y (YO.loadBox hS 1 rfl 73 0 1 (.slice (some ad1149) l907.length C909) 57 (by kernel_rfl) (by kernel_rfl) (by kernel_rfl) (by kernel_rfl)) ?_
            have hC : Core B [Ass.own 3 (Kd.int .i64) A912 C913 l911] [] _ := ⟨_, _, hS.re [3] [] rfl sub_self⟩
            refine ⟨hC, ?_⟩
            refine ED.at' #[true, true, true, true, true, true, true, true, true, true, true, false, true, true, true, false, false, false, false] (by kernel_rfl) ?_
            refine ED.two 11 15 4 (by kernel_rfl) (by kernel_rfl) ?_ ?_
            · refine EO.Y (YO.loadHole hS 2 ad1149 (j := a915) rfl h1147 76 65 (by kernel_rfl) (by kernel_rfl) (by kernel_rfl) (by kernel_rfl)) ?_
              have hC : Core B [Ass.own 3 (Kd.int .i64) A912 C913 l911] [] _ := ⟨_, _, hS.re [3] [] rfl sub_self⟩
              refine ⟨hC, ?_⟩
              refine ED.at' #[true, true, true, true, true, true, true, true, true, true, true, true, true, true, true, false, false, false, false] (by kernel_rfl) ?_
              refine ED.one 15 3 #[true, true, true, true, true, true, true, true, true, true, true, true, true, true, true, true, false, false, false] (by kernel_rfl) (by kernel_rfl) (by kernel_rfl) (EO.lit hS kS69 69 76 1 #[(0, .agg #[.int .i64 a916, .int .i32 a917])] [.int .i64 a916, .int .i32 a917] l1163 69 (by kernel_rfl) (by kernel_rfl) (by kernel_rfl) (fun _ => (by kernel_rfl)) (by rw [hl1163]; rfl) (by kernel_rfl) (fun w G hr => (by rw [hl1163]; exact ⟨[.int .i64 a916, .int .i32 a917], [], rfl, ⟨[.int .i64 a916], [.int .i32 a917], rfl, rfl, ⟨[.int .i32 a917], [], rfl, rfl, rfl⟩⟩, rfl⟩)) ?_)
              intro g1219 w hS
              have hC : Core B [Ass.own 3 (Kd.int .i64) A912 C913 l911] [] _ := ⟨_, _, hS.re [4] [] rfl sub_self⟩
              refine ⟨hC, ?_⟩
              refine ED.one 16 2 #[true, true, true, true, true, true, true, true, true, true, true, true, true, true, true, true, true, false, false] (by kernel_rfl) (by kernel_rfl) (by kernel_rfl) (EO.append hS 76 76 69 16 1 kS69 A1150 C1151 (l907.getD a915.toNat []) rfl (some ⟨g1219, 0, none⟩) 1 l1163 (Rd.own 0 69 rfl) l1165 hl1165 (fun A1220 C1221 => Ass.own 69 kS69 (some ⟨g1219, 0, none⟩) 1 l1163 :: Ass.own 69 kS69 A1220 C1221 l1165 :: Ass.box 95 g906 [.slice (some ad1149) l907.length C909, .slice A912 l911.length C913] :: Ass.holed 76 69 kS69 (some ad1149) C909 l907 a915.toNat (A1150, (l907.getD a915.toNat []).length, C1151) :: Ass.own 3 (Kd.int .i64) A912 C913 l911 :: os) 70 (by kernel_rfl) (by kernel_rfl) (by kernel_rfl) (by kernel_rfl) h1164 (fun _ _ => rfl) ?_)
              intro A1220 C1221 w hS
              have hC : Core B [Ass.own 3 (Kd.int .i64) A912 C913 l911] [] _ := ⟨_, _, hS.re [4] [] rfl sub_self⟩
              refine ⟨hC, ?_⟩
              refine ED.Y hN hF hC 17 1 #[true, true, true, true, true, true, true, true, true, true, true, true, true, true, true, true, true, true, false] (by kernel_rfl) (by kernel_rfl) rfl (fun _ _ _ hS => YO.idx 73 1 ad1149 l907.length C909 .i64 a915 71 (by kernel_rfl) (by kernel_rfl) (by kernel_rfl) (by kernel_rfl) h1147 h1148) ?_
              refine ED.one 18 0 #[true, true, true, true, true, true, true, true, true, true, true, true, true, true, true, true, true, true, true] (by kernel_rfl) (by kernel_rfl) (by kernel_rfl) (EO.closeEl hS 1 2 ad1149 a915 rfl rfl h1147 l1168 hl1168 (Ass.own 69 kS69 (some ⟨g1219, 0, none⟩) 1 l1163 :: Ass.box 95 g906 [.slice (some ad1149) l907.length C909, .slice A912 l911.length C913] :: Ass.deep 76 69 kS69 (some ad1149) C909 l1168 :: Ass.own 3 (Kd.int .i64) A912 C913 l911 :: os) 76 (by kernel_rfl) (by kernel_rfl) (by kernel_rfl) (by kernel_rfl) rfl ?_)
              intro w hS
              have hS : St B w (Ass.own 69 kS69 (some ⟨g1219, 0, none⟩) 1 l1163 :: Ass.box 95 g906 [.slice (some ad1149) l1168.length C909, .slice A912 l911.length C913] :: Ass.deep 76 69 kS69 (some ad1149) C909 l1168 :: Ass.own 3 (Kd.int .i64) A912 C913 l911 :: os) (rs) := by simpa only [hl1168, List.length_set] using hS
              have hC : Core B [Ass.own 3 (Kd.int .i64) A912 C913 l911] [] _ := ⟨_, _, hS.re [3] [] rfl sub_self⟩
              refine ⟨hC, ?_⟩
              refine ED.keep [10, 11, 56, 57, 58, 61, 62, 63, 64, 68, 69, 71] [(10, .int .i32 t1152), (11, .bool (t1153)), (56, .pointer (some ⟨g906, 0, none⟩)), (57, .slice (some ad1149) l907.length C909), (58, .int .i64 a915), (61, .pointer (some ⟨g906, 0, none⟩)), (62, .slice (some ad1149) l907.length C909), (63, .int .i64 a915), (64, .pointer (some ((ad1149.add (a915.toNat * 1)).add 0))), (68, .agg #[.int .i64 a916, .int .i32 a917]), (69, .slice (some ⟨g1219, 0, none⟩) l1163.length 1), (71, .pointer (some ((ad1149.add (a915.toNat * 1)).add 0)))] (by kernel_rfl) ?_
              refine ED.as' [(10, .int .i32 t1152), (11, .bool (t1153)), (56, .pointer (some ⟨g906, 0, none⟩)), (57, .slice (some ad1149) l1168.length C909), (58, .int .i64 a915), (61, .pointer (some ⟨g906, 0, none⟩)), (62, .slice (some ad1149) l1168.length C909), (63, .int .i64 a915), (64, .pointer (some ((ad1149.add (a915.toNat * 1)).add 0))), (68, .agg #[.int .i64 a916, .int .i32 a917]), (69, .slice (some ⟨g1219, 0, none⟩) l1163.length 1), (71, .pointer (some ((ad1149.add (a915.toNat * 1)).add 0)))] (by simp only [hl1168, List.length_set]) ?_
              refine ED.done (by kernel_rfl) ?_
              refine EQ.to ?_
              refine EQ.keep [10, 11] [(10, .int .i32 t1152), (11, .bool (t1153))] (by kernel_rfl) ?_
              exact fun a ha => ⟨(some ⟨g1219, 0, none⟩), 1, ha, (hS.re [3, 3, 3, 3] [] rfl (sub_self))⟩
            · refine EO.lit hS kS69 69 76 1 #[(0, .agg #[.int .i64 a916, .int .i32 a917])] [.int .i64 a916, .int .i32 a917] l1163 69 (by kernel_rfl) (by kernel_rfl) (by kernel_rfl) (fun _ => (by kernel_rfl)) (by rw [hl1163]; rfl) (by kernel_rfl) (fun w G hr => (by rw [hl1163]; exact ⟨[.int .i64 a916, .int .i32 a917], [], rfl, ⟨[.int .i64 a916], [.int .i32 a917], rfl, rfl, ⟨[.int .i32 a917], [], rfl, rfl, rfl⟩⟩, rfl⟩)) ?_
              intro g1222 w hS
              have hC : Core B [Ass.own 3 (Kd.int .i64) A912 C913 l911] [] _ := ⟨_, _, hS.re [4] [] rfl sub_self⟩
              refine ⟨hC, ?_⟩
              refine ED.at' #[true, true, true, true, true, true, true, true, true, true, true, false, true, true, true, true, false, false, false] (by kernel_rfl) ?_
              refine ED.one 11 3 #[true, true, true, true, true, true, true, true, true, true, true, true, true, true, true, true, false, false, false] (by kernel_rfl) (by kernel_rfl) (by kernel_rfl) (EO.Y (YO.loadHole hS 3 ad1149 (j := a915) rfl h1147 76 65 (by kernel_rfl) (by kernel_rfl) (by kernel_rfl) (by kernel_rfl)) ?_)
              have hC : Core B [Ass.own 3 (Kd.int .i64) A912 C913 l911] [] _ := ⟨_, _, hS.re [4] [] rfl sub_self⟩
              refine ⟨hC, ?_⟩
              refine ED.one 16 2 #[true, true, true, true, true, true, true, true, true, true, true, true, true, true, true, true, true, false, false] (by kernel_rfl) (by kernel_rfl) (by kernel_rfl) (EO.append hS 76 76 69 16 1 kS69 A1150 C1151 (l907.getD a915.toNat []) rfl (some ⟨g1222, 0, none⟩) 1 l1163 (Rd.own 0 69 rfl) l1165 hl1165 (fun A1223 C1224 => Ass.own 69 kS69 (some ⟨g1222, 0, none⟩) 1 l1163 :: Ass.own 69 kS69 A1223 C1224 l1165 :: Ass.box 95 g906 [.slice (some ad1149) l907.length C909, .slice A912 l911.length C913] :: Ass.holed 76 69 kS69 (some ad1149) C909 l907 a915.toNat (A1150, (l907.getD a915.toNat []).length, C1151) :: Ass.own 3 (Kd.int .i64) A912 C913 l911 :: os) 70 (by kernel_rfl) (by kernel_rfl) (by kernel_rfl) (by kernel_rfl) h1164 (fun _ _ => rfl) ?_)
              intro A1223 C1224 w hS
              have hC : Core B [Ass.own 3 (Kd.int .i64) A912 C913 l911] [] _ := ⟨_, _, hS.re [4] [] rfl sub_self⟩
              refine ⟨hC, ?_⟩
              refine ED.Y hN hF hC 17 1 #[true, true, true, true, true, true, true, true, true, true, true, true, true, true, true, true, true, true, false] (by kernel_rfl) (by kernel_rfl) rfl (fun _ _ _ hS => YO.idx 73 1 ad1149 l907.length C909 .i64 a915 71 (by kernel_rfl) (by kernel_rfl) (by kernel_rfl) (by kernel_rfl) h1147 h1148) ?_
              refine ED.one 18 0 #[true, true, true, true, true, true, true, true, true, true, true, true, true, true, true, true, true, true, true] (by kernel_rfl) (by kernel_rfl) (by kernel_rfl) (EO.closeEl hS 1 2 ad1149 a915 rfl rfl h1147 l1168 hl1168 (Ass.own 69 kS69 (some ⟨g1222, 0, none⟩) 1 l1163 :: Ass.box 95 g906 [.slice (some ad1149) l907.length C909, .slice A912 l911.length C913] :: Ass.deep 76 69 kS69 (some ad1149) C909 l1168 :: Ass.own 3 (Kd.int .i64) A912 C913 l911 :: os) 76 (by kernel_rfl) (by kernel_rfl) (by kernel_rfl) (by kernel_rfl) rfl ?_)
              intro w hS
              have hS : St B w (Ass.own 69 kS69 (some ⟨g1222, 0, none⟩) 1 l1163 :: Ass.box 95 g906 [.slice (some ad1149) l1168.length C909, .slice A912 l911.length C913] :: Ass.deep 76 69 kS69 (some ad1149) C909 l1168 :: Ass.own 3 (Kd.int .i64) A912 C913 l911 :: os) (rs) := by simpa only [hl1168, List.length_set] using hS
              have hC : Core B [Ass.own 3 (Kd.int .i64) A912 C913 l911] [] _ := ⟨_, _, hS.re [3] [] rfl sub_self⟩
              refine ⟨hC, ?_⟩
              refine ED.keep [10, 11, 56, 57, 58, 61, 62, 63, 64, 68, 69, 71] [(10, .int .i32 t1152), (11, .bool (t1153)), (56, .pointer (some ⟨g906, 0, none⟩)), (57, .slice (some ad1149) l907.length C909), (58, .int .i64 a915), (61, .pointer (some ⟨g906, 0, none⟩)), (62, .slice (some ad1149) l907.length C909), (63, .int .i64 a915), (64, .pointer (some ((ad1149.add (a915.toNat * 1)).add 0))), (68, .agg #[.int .i64 a916, .int .i32 a917]), (69, .slice (some ⟨g1222, 0, none⟩) l1163.length 1), (71, .pointer (some ((ad1149.add (a915.toNat * 1)).add 0)))] (by kernel_rfl) ?_
              refine ED.as' [(10, .int .i32 t1152), (11, .bool (t1153)), (56, .pointer (some ⟨g906, 0, none⟩)), (57, .slice (some ad1149) l1168.length C909), (58, .int .i64 a915), (61, .pointer (some ⟨g906, 0, none⟩)), (62, .slice (some ad1149) l1168.length C909), (63, .int .i64 a915), (64, .pointer (some ((ad1149.add (a915.toNat * 1)).add 0))), (68, .agg #[.int .i64 a916, .int .i32 a917]), (69, .slice (some ⟨g1222, 0, none⟩) l1163.length 1), (71, .pointer (some ((ad1149.add (a915.toNat * 1)).add 0)))] (by simp only [hl1168, List.length_set]) ?_
              refine ED.done (by kernel_rfl) ?_
              refine EQ.to ?_
              refine EQ.keep [10, 11] [(10, .int .i32 t1152), (11, .bool (t1153))] (by kernel_rfl) ?_
              exact fun a ha => ⟨(some ⟨g1222, 0, none⟩), 1, ha, (hS.re [3, 3, 3, 3] [] rfl (sub_self))⟩
          · refine EO.Y (YO.loadHole hS 2 ad1149 (j := a915) rfl h1147 76 65 (by kernel_rfl) (by kernel_rfl) (by kernel_rfl) (by kernel_rfl)) ?_
            have hC : Core B [Ass.own 3 (Kd.int .i64) A912 C913 l911] [] _ := ⟨_, _, hS.re [3] [] rfl sub_self⟩
            refine ⟨hC, ?_⟩
            refine ED.at' #[true, true, true, false, true, true, true, true, true, true, true, true, true, true, true, false, false, false, false] (by kernel_rfl) ?_
            refine ED.two 3 15 4 (by kernel_rfl) (by kernel_rfl) ?_ ?_
            · refine EO.Y (YO.loadBox hS 1 rfl 73 0 1 (.slice (some ad1149) l907.length C909) 57 (by kernel_rfl) (by kernel_rfl) (by kernel_rfl) (by kernel_rfl)) ?_
              have hC : Core B [Ass.own 3 (Kd.int .i64) A912 C913 l911] [] _ := ⟨_, _, hS.re [3] [] rfl sub_self⟩
              refine ⟨hC, ?_⟩
              refine ED.at' #[true, true, true, true, true, true, true, true, true, true, true, true, true, true, true, false, false, false, false] (by kernel_rfl) ?_
              refine ED.one 15 3 #[true, true, true, true, true, true, true, true, true, true, true, true, true, true, true, true, false, false, false] (by kernel_rfl) (by kernel_rfl) (by kernel_rfl) (EO.lit hS kS69 69 76 1 #[(0, .agg #[.int .i64 a916, .int .i32 a917])] [.int .i64 a916, .int .i32 a917] l1163 69 (by kernel_rfl) (by kernel_rfl) (by kernel_rfl) (fun _ => (by kernel_rfl)) (by rw [hl1163]; rfl) (by kernel_rfl) (fun w G hr => (by rw [hl1163]; exact ⟨[.int .i64 a916, .int .i32 a917], [], rfl, ⟨[.int .i64 a916], [.int .i32 a917], rfl, rfl, ⟨[.int .i32 a917], [], rfl, rfl, rfl⟩⟩, rfl⟩)) ?_)
              intro g1225 w hS
              have hC : Core B [Ass.own 3 (Kd.int .i64) A912 C913 l911] [] _ := ⟨_, _, hS.re [4] [] rfl sub_self⟩
              refine ⟨hC, ?_⟩
              refine ED.one 16 2 #[true, true, true, true, true, true, true, true, true, true, true, true, true, true, true, true, true, false, false] (by kernel_rfl) (by kernel_rfl) (by kernel_rfl) (EO.append hS 76 76 69 16 1 kS69 A1150 C1151 (l907.getD a915.toNat []) rfl (some ⟨g1225, 0, none⟩) 1 l1163 (Rd.own 0 69 rfl) l1165 hl1165 (fun A1226 C1227 => Ass.own 69 kS69 (some ⟨g1225, 0, none⟩) 1 l1163 :: Ass.own 69 kS69 A1226 C1227 l1165 :: Ass.box 95 g906 [.slice (some ad1149) l907.length C909, .slice A912 l911.length C913] :: Ass.holed 76 69 kS69 (some ad1149) C909 l907 a915.toNat (A1150, (l907.getD a915.toNat []).length, C1151) :: Ass.own 3 (Kd.int .i64) A912 C913 l911 :: os) 70 (by kernel_rfl) (by kernel_rfl) (by kernel_rfl) (by kernel_rfl) h1164 (fun _ _ => rfl) ?_)
              intro A1226 C1227 w hS
              have hC : Core B [Ass.own 3 (Kd.int .i64) A912 C913 l911] [] _ := ⟨_, _, hS.re [4] [] rfl sub_self⟩
              refine ⟨hC, ?_⟩
              refine ED.Y hN hF hC 17 1 #[true, true, true, true, true, true, true, true, true, true, true, true, true, true, true, true, true, true, false] (by kernel_rfl) (by kernel_rfl) rfl (fun _ _ _ hS => YO.idx 73 1 ad1149 l907.length C909 .i64 a915 71 (by kernel_rfl) (by kernel_rfl) (by kernel_rfl) (by kernel_rfl) h1147 h1148) ?_
              refine ED.one 18 0 #[true, true, true, true, true, true, true, true, true, true, true, true, true, true, true, true, true, true, true] (by kernel_rfl) (by kernel_rfl) (by kernel_rfl) (EO.closeEl hS 1 2 ad1149 a915 rfl rfl h1147 l1168 hl1168 (Ass.own 69 kS69 (some ⟨g1225, 0, none⟩) 1 l1163 :: Ass.box 95 g906 [.slice (some ad1149) l907.length C909, .slice A912 l911.length C913] :: Ass.deep 76 69 kS69 (some ad1149) C909 l1168 :: Ass.own 3 (Kd.int .i64) A912 C913 l911 :: os) 76 (by kernel_rfl) (by kernel_rfl) (by kernel_rfl) (by kernel_rfl) rfl ?_)
              intro w hS
              have hS : St B w (Ass.own 69 kS69 (some ⟨g1225, 0, none⟩) 1 l1163 :: Ass.box 95 g906 [.slice (some ad1149) l1168.length C909, .slice A912 l911.length C913] :: Ass.deep 76 69 kS69 (some ad1149) C909 l1168 :: Ass.own 3 (Kd.int .i64) A912 C913 l911 :: os) (rs) := by simpa only [hl1168, List.length_set] using hS
              have hC : Core B [Ass.own 3 (Kd.int .i64) A912 C913 l911] [] _ := ⟨_, _, hS.re [3] [] rfl sub_self⟩
              refine ⟨hC, ?_⟩
              refine ED.keep [10, 11, 56, 57, 58, 61, 62, 63, 64, 68, 69, 71] [(10, .int .i32 t1152), (11, .bool (t1153)), (56, .pointer (some ⟨g906, 0, none⟩)), (57, .slice (some ad1149) l907.length C909), (58, .int .i64 a915), (61, .pointer (some ⟨g906, 0, none⟩)), (62, .slice (some ad1149) l907.length C909), (63, .int .i64 a915), (64, .pointer (some ((ad1149.add (a915.toNat * 1)).add 0))), (68, .agg #[.int .i64 a916, .int .i32 a917]), (69, .slice (some ⟨g1225, 0, none⟩) l1163.length 1), (71, .pointer (some ((ad1149.add (a915.toNat * 1)).add 0)))] (by kernel_rfl) ?_
              refine ED.as' [(10, .int .i32 t1152), (11, .bool (t1153)), (56, .pointer (some ⟨g906, 0, none⟩)), (57, .slice (some ad1149) l1168.length C909), (58, .int .i64 a915), (61, .pointer (some ⟨g906, 0, none⟩)), (62, .slice (some ad1149) l1168.length C909), (63, .int .i64 a915), (64, .pointer (some ((ad1149.add (a915.toNat * 1)).add 0))), (68, .agg #[.int .i64 a916, .int .i32 a917]), (69, .slice (some ⟨g1225, 0, none⟩) l1163.length 1), (71, .pointer (some ((ad1149.add (a915.toNat * 1)).add 0)))] (by simp only [hl1168, List.length_set]) ?_
              refine ED.done (by kernel_rfl) ?_
              refine EQ.to ?_
              refine EQ.keep [10, 11] [(10, .int .i32 t1152), (11, .bool (t1153))] (by kernel_rfl) ?_
              exact fun a ha => ⟨(some ⟨g1225, 0, none⟩), 1, ha, (hS.re [3, 3, 3, 3] [] rfl (sub_self))⟩
            · refine EO.lit hS kS69 69 76 1 #[(0, .agg #[.int .i64 a916, .int .i32 a917])] [.int .i64 a916, .int .i32 a917] l1163 69 (by kernel_rfl) (by kernel_rfl) (by kernel_rfl) (fun _ => (by kernel_rfl)) (by rw [hl1163]; rfl) (by kernel_rfl) (fun w G hr => (by rw [hl1163]; exact ⟨[.int .i64 a916, .int .i32 a917], [], rfl, ⟨[.int .i64 a916], [.int .i32 a917], rfl, rfl, ⟨[.int .i32 a917], [], rfl, rfl, rfl⟩⟩, rfl⟩)) ?_
              intro g1228 w hS
              have hC : Core B [Ass.own 3 (Kd.int .i64) A912 C913 l911] [] _ := ⟨_, _, hS.re [4] [] rfl sub_self⟩
              refine ⟨hC, ?_⟩
              refine ED.at' #[true, true, true, false, true, true, true, true, true, true, true, true, true, true, true, true, false, false, false] (by kernel_rfl) ?_
              refine ED.two 3 16 3 (by kernel_rfl) (by kernel_rfl) ?_ ?_
              · refine EO.Y (YO.loadBox hS 2 rfl 73 0 1 (.slice (some ad1149) l907.length C909) 57 (by kernel_rfl) (by kernel_rfl) (by kernel_rfl) (by kernel_rfl)) ?_
                have hC : Core B [Ass.own 3 (Kd.int .i64) A912 C913 l911] [] _ := ⟨_, _, hS.re [4] [] rfl sub_self⟩
                refine ⟨hC, ?_⟩
                refine ED.at' #[true, true, true, true, true, true, true, true, true, true, true, true, true, true, true, true, false, false, false] (by kernel_rfl) ?_
                refine ED.one 16 2 #[true, true, true, true, true, true, true, true, true, true, true, true, true, true, true, true, true, false, false] (by kernel_rfl) (by kernel_rfl) (by kernel_rfl) (EO.append hS 76 76 69 16 1 kS69 A1150 C1151 (l907.getD a915.toNat []) rfl (some ⟨g1228, 0, none⟩) 1 l1163 (Rd.own 0 69 rfl) l1165 hl1165 (fun A1229 C1230 => Ass.own 69 kS69 (some ⟨g1228, 0, none⟩) 1 l1163 :: Ass.own 69 kS69 A1229 C1230 l1165 :: Ass.box 95 g906 [.slice (some ad1149) l907.length C909, .slice A912 l911.length C913] :: Ass.holed 76 69 kS69 (some ad1149) C909 l907 a915.toNat (A1150, (l907.getD a915.toNat []).length, C1151) :: Ass.own 3 (Kd.int .i64) A912 C913 l911 :: os) 70 (by kernel_rfl) (by kernel_rfl) (by kernel_rfl) (by kernel_rfl) h1164 (fun _ _ => rfl) ?_)
                intro A1229 C1230 w hS
                have hC : Core B [Ass.own 3 (Kd.int .i64) A912 C913 l911] [] _ := ⟨_, _, hS.re [4] [] rfl sub_self⟩
                refine ⟨hC, ?_⟩
                refine ED.Y hN hF hC 17 1 #[true, true, true, true, true, true, true, true, true, true, true, true, true, true, true, true, true, true, false] (by kernel_rfl) (by kernel_rfl) rfl (fun _ _ _ hS => YO.idx 73 1 ad1149 l907.length C909 .i64 a915 71 (by kernel_rfl) (by kernel_rfl) (by kernel_rfl) (by kernel_rfl) h1147 h1148) ?_
                refine ED.one 18 0 #[true, true, true, true, true, true, true, true, true, true, true, true, true, true, true, true, true, true, true] (by kernel_rfl) (by kernel_rfl) (by kernel_rfl) (EO.closeEl hS 1 2 ad1149 a915 rfl rfl h1147 l1168 hl1168 (Ass.own 69 kS69 (some ⟨g1228, 0, none⟩) 1 l1163 :: Ass.box 95 g906 [.slice (some ad1149) l907.length C909, .slice A912 l911.length C913] :: Ass.deep 76 69 kS69 (some ad1149) C909 l1168 :: Ass.own 3 (Kd.int .i64) A912 C913 l911 :: os) 76 (by kernel_rfl) (by kernel_rfl) (by kernel_rfl) (by kernel_rfl) rfl ?_)
                intro w hS
                have hS : St B w (Ass.own 69 kS69 (some ⟨g1228, 0, none⟩) 1 l1163 :: Ass.box 95 g906 [.slice (some ad1149) l1168.length C909, .slice A912 l911.length C913] :: Ass.deep 76 69 kS69 (some ad1149) C909 l1168 :: Ass.own 3 (Kd.int .i64) A912 C913 l911 :: os) (rs) := by simpa only [hl1168, List.length_set] using hS
                have hC : Core B [Ass.own 3 (Kd.int .i64) A912 C913 l911] [] _ := ⟨_, _, hS.re [3] [] rfl sub_self⟩
                refine ⟨hC, ?_⟩
                refine ED.keep [10, 11, 56, 57, 58, 61, 62, 63, 64, 68, 69, 71] [(10, .int .i32 t1152), (11, .bool (t1153)), (56, .pointer (some ⟨g906, 0, none⟩)), (57, .slice (some ad1149) l907.length C909), (58, .int .i64 a915), (61, .pointer (some ⟨g906, 0, none⟩)), (62, .slice (some ad1149) l907.length C909), (63, .int .i64 a915), (64, .pointer (some ((ad1149.add (a915.toNat * 1)).add 0))), (68, .agg #[.int .i64 a916, .int .i32 a917]), (69, .slice (some ⟨g1228, 0, none⟩) l1163.length 1), (71, .pointer (some ((ad1149.add (a915.toNat * 1)).add 0)))] (by kernel_rfl) ?_
                refine ED.as' [(10, .int .i32 t1152), (11, .bool (t1153)), (56, .pointer (some ⟨g906, 0, none⟩)), (57, .slice (some ad1149) l1168.length C909), (58, .int .i64 a915), (61, .pointer (some ⟨g906, 0, none⟩)), (62, .slice (some ad1149) l1168.length C909), (63, .int .i64 a915), (64, .pointer (some ((ad1149.add (a915.toNat * 1)).add 0))), (68, .agg #[.int .i64 a916, .int .i32 a917]), (69, .slice (some ⟨g1228, 0, none⟩) l1163.length 1), (71, .pointer (some ((ad1149.add (a915.toNat * 1)).add 0)))] (by simp only [hl1168, List.length_set]) ?_
                refine ED.done (by kernel_rfl) ?_
                refine EQ.to ?_
                refine EQ.keep [10, 11] [(10, .int .i32 t1152), (11, .bool (t1153))] (by kernel_rfl) ?_
                exact fun a ha => ⟨(some ⟨g1228, 0, none⟩), 1, ha, (hS.re [3, 3, 3, 3] [] rfl (sub_self))⟩
              · refine EO.append hS 76 76 69 16 1 kS69 A1150 C1151 (l907.getD a915.toNat []) rfl (some ⟨g1228, 0, none⟩) 1 l1163 (Rd.own 0 69 rfl) l1165 hl1165 (fun A1231 C1232 => Ass.own 69 kS69 (some ⟨g1228, 0, none⟩) 1 l1163 :: Ass.own 69 kS69 A1231 C1232 l1165 :: Ass.box 95 g906 [.slice (some ad1149) l907.length C909, .slice A912 l911.length C913] :: Ass.holed 76 69 kS69 (some ad1149) C909 l907 a915.toNat (A1150, (l907.getD a915.toNat []).length, C1151) :: Ass.own 3 (Kd.int .i64) A912 C913 l911 :: os) 70 (by kernel_rfl) (by kernel_rfl) (by kernel_rfl) (by kernel_rfl) h1164 (fun _ _ => rfl) ?_
                intro A1231 C1232 w hS
                have hC : Core B [Ass.own 3 (Kd.int .i64) A912 C913 l911] [] _ := ⟨_, _, hS.re [4] [] rfl sub_self⟩
                refine ⟨hC, ?_⟩
                refine ED.at' #[true, true, true, false, true, true, true, true, true, true, true, true, true, true, true, true, true, false, false] (by kernel_rfl) ?_
                refine ED.one 3 2 #[true, true, true, true, true, true, true, true, true, true, true, true, true, true, true, true, true, false, false] (by kernel_rfl) (by kernel_rfl) (by kernel_rfl) (EO.Y (YO.loadBox hS 2 rfl 73 0 1 (.slice (some ad1149) l907.length C909) 57 (by kernel_rfl) (by kernel_rfl) (by kernel_rfl) (by kernel_rfl)) ?_)
                have hC : Core B [Ass.own 3 (Kd.int .i64) A912 C913 l911] [] _ := ⟨_, _, hS.re [4] [] rfl sub_self⟩
                refine ⟨hC, ?_⟩
                refine ED.Y hN hF hC 17 1 #[true, true, true, true, true, true, true, true, true, true, true, true, true, true, true, true, true, true, false] (by kernel_rfl) (by kernel_rfl) rfl (fun _ _ _ hS => YO.idx 73 1 ad1149 l907.length C909 .i64 a915 71 (by kernel_rfl) (by kernel_rfl) (by kernel_rfl) (by kernel_rfl) h1147 h1148) ?_
                refine ED.one 18 0 #[true, true, true, true, true, true, true, true, true, true, true, true, true, true, true, true, true, true, true] (by kernel_rfl) (by kernel_rfl) (by kernel_rfl) (EO.closeEl hS 1 2 ad1149 a915 rfl rfl h1147 l1168 hl1168 (Ass.own 69 kS69 (some ⟨g1228, 0, none⟩) 1 l1163 :: Ass.box 95 g906 [.slice (some ad1149) l907.length C909, .slice A912 l911.length C913] :: Ass.deep 76 69 kS69 (some ad1149) C909 l1168 :: Ass.own 3 (Kd.int .i64) A912 C913 l911 :: os) 76 (by kernel_rfl) (by kernel_rfl) (by kernel_rfl) (by kernel_rfl) rfl ?_)
                intro w hS
                have hS : St B w (Ass.own 69 kS69 (some ⟨g1228, 0, none⟩) 1 l1163 :: Ass.box 95 g906 [.slice (some ad1149) l1168.length C909, .slice A912 l911.length C913] :: Ass.deep 76 69 kS69 (some ad1149) C909 l1168 :: Ass.own 3 (Kd.int .i64) A912 C913 l911 :: os) (rs) := by simpa only [hl1168, List.length_set] using hS
                have hC : Core B [Ass.own 3 (Kd.int .i64) A912 C913 l911] [] _ := ⟨_, _, hS.re [3] [] rfl sub_self⟩
                refine ⟨hC, ?_⟩
                refine ED.keep [10, 11, 56, 57, 58, 61, 62, 63, 64, 68, 69, 71] [(10, .int .i32 t1152), (11, .bool (t1153)), (56, .pointer (some ⟨g906, 0, none⟩)), (57, .slice (some ad1149) l907.length C909), (58, .int .i64 a915), (61, .pointer (some ⟨g906, 0, none⟩)), (62, .slice (some ad1149) l907.length C909), (63, .int .i64 a915), (64, .pointer (some ((ad1149.add (a915.toNat * 1)).add 0))), (68, .agg #[.int .i64 a916, .int .i32 a917]), (69, .slice (some ⟨g1228, 0, none⟩) l1163.length 1), (71, .pointer (some ((ad1149.add (a915.toNat * 1)).add 0)))] (by kernel_rfl) ?_
                refine ED.as' [(10, .int .i32 t1152), (11, .bool (t1153)), (56, .pointer (some ⟨g906, 0, none⟩)), (57, .slice (some ad1149) l1168.length C909), (58, .int .i64 a915), (61, .pointer (some ⟨g906, 0, none⟩)), (62, .slice (some ad1149) l1168.length C909), (63, .int .i64 a915), (64, .pointer (some ((ad1149.add (a915.toNat * 1)).add 0))), (68, .agg #[.int .i64 a916, .int .i32 a917]), (69, .slice (some ⟨g1228, 0, none⟩) l1163.length 1), (71, .pointer (some ((ad1149.add (a915.toNat * 1)).add 0)))] (by simp only [hl1168, List.length_set]) ?_
                refine ED.done (by kernel_rfl) ?_
                refine EQ.to ?_
                refine EQ.keep [10, 11] [(10, .int .i32 t1152), (11, .bool (t1153))] (by kernel_rfl) ?_
                exact fun a ha => ⟨(some ⟨g1228, 0, none⟩), 1, ha, (hS.re [3, 3, 3, 3] [] rfl (sub_self))⟩
          · refine EO.lit hS kS69 69 76 1 #[(0, .agg #[.int .i64 a916, .int .i32 a917])] [.int .i64 a916, .int .i32 a917] l1163 69 (by kernel_rfl) (by kernel_rfl) (by kernel_rfl) (fun _ => (by kernel_rfl)) (by rw [hl1163]; rfl) (by kernel_rfl) (fun w G hr => (by rw [hl1163]; exact ⟨[.int .i64 a916, .int .i32 a917], [], rfl, ⟨[.int .i64 a916], [.int .i32 a917], rfl, rfl, ⟨[.int .i32 a917], [], rfl, rfl, rfl⟩⟩, rfl⟩)) ?_
            intro g1233 w hS
            have hC : Core B [Ass.own 3 (Kd.int .i64) A912 C913 l911] [] _ := ⟨_, _, hS.re [4] [] rfl sub_self⟩
            refine ⟨hC, ?_⟩
            refine ED.at' #[true, true, true, false, true, true, true, true, true, true, true, false, true, true, true, true, false, false, false] (by kernel_rfl) ?_
            refine ED.two 3 11 4 (by kernel_rfl) (by kernel_rfl) ?_ ?_
            · refine EO.Y (YO.loadBox hS 2 rfl 73 0 1 (.slice (some ad1149) l907.length C909) 57 (by kernel_rfl) (by kernel_rfl) (by kernel_rfl) (by kernel_rfl)) ?_
              have hC : Core B [Ass.own 3 (Kd.int .i64) A912 C913 l911] [] _ := ⟨_, _, hS.re [4] [] rfl sub_self⟩
              refine ⟨hC, ?_⟩
              refine ED.at' #[true, true, true, true, true, true, true, true, true, true, true, false, true, true, true, true, false, false, false] (by kernel_rfl) ?_
              refine ED.one 11 3 #[true, true, true, true, true, true, true, true, true, true, true, true, true, true, true, true, false, false, false] (by kernel_rfl) (by kernel_rfl) (by kernel_rfl) (EO.Y (YO.loadHole hS 3 ad1149 (j := a915) rfl h1147 76 65 (by kernel_rfl) (by kernel_rfl) (by kernel_rfl) (by kernel_rfl)) ?_)
              have hC : Core B [Ass.own 3 (Kd.int .i64) A912 C913 l911] [] _ := ⟨_, _, hS.re [4] [] rfl sub_self⟩
              refine ⟨hC, ?_⟩
              refine ED.one 16 2 #[true, true, true, true, true, true, true, true, true, true, true, true, true, true, true, true, true, false, false] (by kernel_rfl) (by kernel_rfl) (by kernel_rfl) (EO.append hS 76 76 69 16 1 kS69 A1150 C1151 (l907.getD a915.toNat []) rfl (some ⟨g1233, 0, none⟩) 1 l1163 (Rd.own 0 69 rfl) l1165 hl1165 (fun A1234 C1235 => Ass.own 69 kS69 (some ⟨g1233, 0, none⟩) 1 l1163 :: Ass.own 69 kS69 A1234 C1235 l1165 :: Ass.box 95 g906 [.slice (some ad1149) l907.length C909, .slice A912 l911.length C913] :: Ass.holed 76 69 kS69 (some ad1149) C909 l907 a915.toNat (A1150, (l907.getD a915.toNat []).length, C1151) :: Ass.own 3 (Kd.int .i64) A912 C913 l911 :: os) 70 (by kernel_rfl) (by kernel_rfl) (by kernel_rfl) (by kernel_rfl) h1164 (fun _ _ => rfl) ?_)
              intro A1234 C1235 w hS
              have hC : Core B [Ass.own 3 (Kd.int .i64) A912 C913 l911] [] _ := ⟨_, _, hS.re [4] [] rfl sub_self⟩
              refine ⟨hC, ?_⟩
              refine ED.Y hN hF hC 17 1 #[true, true, true, true, true, true, true, true, true, true, true, true, true, true, true, true, true, true, false] (by kernel_rfl) (by kernel_rfl) rfl (fun _ _ _ hS => YO.idx 73 1 ad1149 l907.length C909 .i64 a915 71 (by kernel_rfl) (by kernel_rfl) (by kernel_rfl) (by kernel_rfl) h1147 h1148) ?_
              refine ED.one 18 0 #[true, true, true, true, true, true, true, true, true, true, true, true, true, true, true, true, true, true, true] (by kernel_rfl) (by kernel_rfl) (by kernel_rfl) (EO.closeEl hS 1 2 ad1149 a915 rfl rfl h1147 l1168 hl1168 (Ass.own 69 kS69 (some ⟨g1233, 0, none⟩) 1 l1163 :: Ass.box 95 g906 [.slice (some ad1149) l907.length C909, .slice A912 l911.length C913] :: Ass.deep 76 69 kS69 (some ad1149) C909 l1168 :: Ass.own 3 (Kd.int .i64) A912 C913 l911 :: os) 76 (by kernel_rfl) (by kernel_rfl) (by kernel_rfl) (by kernel_rfl) rfl ?_)
              intro w hS
              have hS : St B w (Ass.own 69 kS69 (some ⟨g1233, 0, none⟩) 1 l1163 :: Ass.box 95 g906 [.slice (some ad1149) l1168.length C909, .slice A912 l911.length C913] :: Ass.deep 76 69 kS69 (some ad1149) C909 l1168 :: Ass.own 3 (Kd.int .i64) A912 C913 l911 :: os) (rs) := by simpa only [hl1168, List.length_set] using hS
              have hC : Core B [Ass.own 3 (Kd.int .i64) A912 C913 l911] [] _ := ⟨_, _, hS.re [3] [] rfl sub_self⟩
              refine ⟨hC, ?_⟩
              refine ED.keep [10, 11, 56, 57, 58, 61, 62, 63, 64, 68, 69, 71] [(10, .int .i32 t1152), (11, .bool (t1153)), (56, .pointer (some ⟨g906, 0, none⟩)), (57, .slice (some ad1149) l907.length C909), (58, .int .i64 a915), (61, .pointer (some ⟨g906, 0, none⟩)), (62, .slice (some ad1149) l907.length C909), (63, .int .i64 a915), (64, .pointer (some ((ad1149.add (a915.toNat * 1)).add 0))), (68, .agg #[.int .i64 a916, .int .i32 a917]), (69, .slice (some ⟨g1233, 0, none⟩) l1163.length 1), (71, .pointer (some ((ad1149.add (a915.toNat * 1)).add 0)))] (by kernel_rfl) ?_
              refine ED.as' [(10, .int .i32 t1152), (11, .bool (t1153)), (56, .pointer (some ⟨g906, 0, none⟩)), (57, .slice (some ad1149) l1168.length C909), (58, .int .i64 a915), (61, .pointer (some ⟨g906, 0, none⟩)), (62, .slice (some ad1149) l1168.length C909), (63, .int .i64 a915), (64, .pointer (some ((ad1149.add (a915.toNat * 1)).add 0))), (68, .agg #[.int .i64 a916, .int .i32 a917]), (69, .slice (some ⟨g1233, 0, none⟩) l1163.length 1), (71, .pointer (some ((ad1149.add (a915.toNat * 1)).add 0)))] (by simp only [hl1168, List.length_set]) ?_
              refine ED.done (by kernel_rfl) ?_
              refine EQ.to ?_
              refine EQ.keep [10, 11] [(10, .int .i32 t1152), (11, .bool (t1153))] (by kernel_rfl) ?_
              exact fun a ha => ⟨(some ⟨g1233, 0, none⟩), 1, ha, (hS.re [3, 3, 3, 3] [] rfl (sub_self))⟩
            · refine EO.Y (YO.loadHole hS 3 ad1149 (j := a915) rfl h1147 76 65 (by kernel_rfl) (by kernel_rfl) (by kernel_rfl) (by kernel_rfl)) ?_
              have hC : Core B [Ass.own 3 (Kd.int .i64) A912 C913 l911] [] _ := ⟨_, _, hS.re [4] [] rfl sub_self⟩
              refine ⟨hC, ?_⟩
              refine ED.at' #[true, true, true, false, true, true, true, true, true, true, true, true, true, true, true, true, false, false, false] (by kernel_rfl) ?_
              refine ED.two 3 16 3 (by kernel_rfl) (by kernel_rfl) ?_ ?_
              · refine EO.Y (YO.loadBox hS 2 rfl 73 0 1 (.slice (some ad1149) l907.length C909) 57 (by kernel_rfl) (by kernel_rfl) (by kernel_rfl) (by kernel_rfl)) ?_
                have hC : Core B [Ass.own 3 (Kd.int .i64) A912 C913 l911] [] _ := ⟨_, _, hS.re [4] [] rfl sub_self⟩
                refine ⟨hC, ?_⟩
                refine ED.at' #[true, true, true, true, true, true, true, true, true, true, true, true, true, true, true, true, false, false, false] (by kernel_rfl) ?_
                refine ED.one 16 2 #[true, true, true, true, true, true, true, true, true, true, true, true, true, true, true, true, true, false, false] (by kernel_rfl) (by kernel_rfl) (by kernel_rfl) (EO.append hS 76 76 69 16 1 kS69 A1150 C1151 (l907.getD a915.toNat []) rfl (some ⟨g1233, 0, none⟩) 1 l1163 (Rd.own 0 69 rfl) l1165 hl1165 (fun A1236 C1237 => Ass.own 69 kS69 (some ⟨g1233, 0, none⟩) 1 l1163 :: Ass.own 69 kS69 A1236 C1237 l1165 :: Ass.box 95 g906 [.slice (some ad1149) l907.length C909, .slice A912 l911.length C913] :: Ass.holed 76 69 kS69 (some ad1149) C909 l907 a915.toNat (A1150, (l907.getD a915.toNat []).length, C1151) :: Ass.own 3 (Kd.int .i64) A912 C913 l911 :: os) 70 (by kernel_rfl) (by kernel_rfl) (by kernel_rfl) (by kernel_rfl) h1164 (fun _ _ => rfl) ?_)
                intro A1236 C1237 w hS
                have hC : Core B [Ass.own 3 (Kd.int .i64) A912 C913 l911] [] _ := ⟨_, _, hS.re [4] [] rfl sub_self⟩
                refine ⟨hC, ?_⟩
                refine ED.Y hN hF hC 17 1 #[true, true, true, true, true, true, true, true, true, true, true, true, true, true, true, true, true, true, false] (by kernel_rfl) (by kernel_rfl) rfl (fun _ _ _ hS => YO.idx 73 1 ad1149 l907.length C909 .i64 a915 71 (by kernel_rfl) (by kernel_rfl) (by kernel_rfl) (by kernel_rfl) h1147 h1148) ?_
                refine ED.one 18 0 #[true, true, true, true, true, true, true, true, true, true, true, true, true, true, true, true, true, true, true] (by kernel_rfl) (by kernel_rfl) (by kernel_rfl) (EO.closeEl hS 1 2 ad1149 a915 rfl rfl h1147 l1168 hl1168 (Ass.own 69 kS69 (some ⟨g1233, 0, none⟩) 1 l1163 :: Ass.box 95 g906 [.slice (some ad1149) l907.length C909, .slice A912 l911.length C913] :: Ass.deep 76 69 kS69 (some ad1149) C909 l1168 :: Ass.own 3 (Kd.int .i64) A912 C913 l911 :: os) 76 (by kernel_rfl) (by kernel_rfl) (by kernel_rfl) (by kernel_rfl) rfl ?_)
                intro w hS
                have hS : St B w (Ass.own 69 kS69 (some ⟨g1233, 0, none⟩) 1 l1163 :: Ass.box 95 g906 [.slice (some ad1149) l1168.length C909, .slice A912 l911.length C913] :: Ass.deep 76 69 kS69 (some ad1149) C909 l1168 :: Ass.own 3 (Kd.int .i64) A912 C913 l911 :: os) (rs) := by simpa only [hl1168, List.length_set] using hS
                have hC : Core B [Ass.own 3 (Kd.int .i64) A912 C913 l911] [] _ := ⟨_, _, hS.re [3] [] rfl sub_self⟩
                refine ⟨hC, ?_⟩
                refine ED.keep [10, 11, 56, 57, 58, 61, 62, 63, 64, 68, 69, 71] [(10, .int .i32 t1152), (11, .bool (t1153)), (56, .pointer (some ⟨g906, 0, none⟩)), (57, .slice (some ad1149) l907.length C909), (58, .int .i64 a915), (61, .pointer (some ⟨g906, 0, none⟩)), (62, .slice (some ad1149) l907.length C909), (63, .int .i64 a915), (64, .pointer (some ((ad1149.add (a915.toNat * 1)).add 0))), (68, .agg #[.int .i64 a916, .int .i32 a917]), (69, .slice (some ⟨g1233, 0, none⟩) l1163.length 1), (71, .pointer (some ((ad1149.add (a915.toNat * 1)).add 0)))] (by kernel_rfl) ?_
                refine ED.as' [(10, .int .i32 t1152), (11, .bool (t1153)), (56, .pointer (some ⟨g906, 0, none⟩)), (57, .slice (some ad1149) l1168.length C909), (58, .int .i64 a915), (61, .pointer (some ⟨g906, 0, none⟩)), (62, .slice (some ad1149) l1168.length C909), (63, .int .i64 a915), (64, .pointer (some ((ad1149.add (a915.toNat * 1)).add 0))), (68, .agg #[.int .i64 a916, .int .i32 a917]), (69, .slice (some ⟨g1233, 0, none⟩) l1163.length 1), (71, .pointer (some ((ad1149.add (a915.toNat * 1)).add 0)))] (by simp only [hl1168, List.length_set]) ?_
                refine ED.done (by kernel_rfl) ?_
                refine EQ.to ?_
                refine EQ.keep [10, 11] [(10, .int .i32 t1152), (11, .bool (t1153))] (by kernel_rfl) ?_
                exact fun a ha => ⟨(some ⟨g1233, 0, none⟩), 1, ha, (hS.re [3, 3, 3, 3] [] rfl (sub_self))⟩
              · refine EO.append hS 76 76 69 16 1 kS69 A1150 C1151 (l907.getD a915.toNat []) rfl (some ⟨g1233, 0, none⟩) 1 l1163 (Rd.own 0 69 rfl) l1165 hl1165 (fun A1238 C1239 => Ass.own 69 kS69 (some ⟨g1233, 0, none⟩) 1 l1163 :: Ass.own 69 kS69 A1238 C1239 l1165 :: Ass.box 95 g906 [.slice (some ad1149) l907.length C909, .slice A912 l911.length C913] :: Ass.holed 76 69 kS69 (some ad1149) C909 l907 a915.toNat (A1150, (l907.getD a915.toNat []).length, C1151) :: Ass.own 3 (Kd.int .i64) A912 C913 l911 :: os) 70 (by kernel_rfl) (by kernel_rfl) (by kernel_rfl) (by kernel_rfl) h1164 (fun _ _ => rfl) ?_
                intro A1238 C1239 w hS
                have hC : Core B [Ass.own 3 (Kd.int .i64) A912 C913 l911] [] _ := ⟨_, _, hS.re [4] [] rfl sub_self⟩
                refine ⟨hC, ?_⟩
                refine ED.at' #[true, true, true, false, true, true, true, true, true, true, true, true, true, true, true, true, true, false, false] (by kernel_rfl) ?_
                refine ED.one 3 2 #[true, true, true, true, true, true, true, true, true, true, true, true, true, true, true, true, true, false, false] (by kernel_rfl) (by kernel_rfl) (by kernel_rfl) (EO.Y (YO.loadBox hS 2 rfl 73 0 1 (.slice (some ad1149) l907.length C909) 57 (by kernel_rfl) (by kernel_rfl) (by kernel_rfl) (by kernel_rfl)) ?_)
                have hC : Core B [Ass.own 3 (Kd.int .i64) A912 C913 l911] [] _ := ⟨_, _, hS.re [4] [] rfl sub_self⟩
                refine ⟨hC, ?_⟩
                refine ED.Y hN hF hC 17 1 #[true, true, true, true, true, true, true, true, true, true, true, true, true, true, true, true, true, true, false] (by kernel_rfl) (by kernel_rfl) rfl (fun _ _ _ hS => YO.idx 73 1 ad1149 l907.length C909 .i64 a915 71 (by kernel_rfl) (by kernel_rfl) (by kernel_rfl) (by kernel_rfl) h1147 h1148) ?_
                refine ED.one 18 0 #[true, true, true, true, true, true, true, true, true, true, true, true, true, true, true, true, true, true, true] (by kernel_rfl) (by kernel_rfl) (by kernel_rfl) (EO.closeEl hS 1 2 ad1149 a915 rfl rfl h1147 l1168 hl1168 (Ass.own 69 kS69 (some ⟨g1233, 0, none⟩) 1 l1163 :: Ass.box 95 g906 [.slice (some ad1149) l907.length C909, .slice A912 l911.length C913] :: Ass.deep 76 69 kS69 (some ad1149) C909 l1168 :: Ass.own 3 (Kd.int .i64) A912 C913 l911 :: os) 76 (by kernel_rfl) (by kernel_rfl) (by kernel_rfl) (by kernel_rfl) rfl ?_)
                intro w hS
                have hS : St B w (Ass.own 69 kS69 (some ⟨g1233, 0, none⟩) 1 l1163 :: Ass.box 95 g906 [.slice (some ad1149) l1168.length C909, .slice A912 l911.length C913] :: Ass.deep 76 69 kS69 (some ad1149) C909 l1168 :: Ass.own 3 (Kd.int .i64) A912 C913 l911 :: os) (rs) := by simpa only [hl1168, List.length_set] using hS
                have hC : Core B [Ass.own 3 (Kd.int .i64) A912 C913 l911] [] _ := ⟨_, _, hS.re [3] [] rfl sub_self⟩
                refine ⟨hC, ?_⟩
                refine ED.keep [10, 11, 56, 57, 58, 61, 62, 63, 64, 68, 69, 71] [(10, .int .i32 t1152), (11, .bool (t1153)), (56, .pointer (some ⟨g906, 0, none⟩)), (57, .slice (some ad1149) l907.length C909), (58, .int .i64 a915), (61, .pointer (some ⟨g906, 0, none⟩)), (62, .slice (some ad1149) l907.length C909), (63, .int .i64 a915), (64, .pointer (some ((ad1149.add (a915.toNat * 1)).add 0))), (68, .agg #[.int .i64 a916, .int .i32 a917]), (69, .slice (some ⟨g1233, 0, none⟩) l1163.length 1), (71, .pointer (some ((ad1149.add (a915.toNat * 1)).add 0)))] (by kernel_rfl) ?_
                refine ED.as' [(10, .int .i32 t1152), (11, .bool (t1153)), (56, .pointer (some ⟨g906, 0, none⟩)), (57, .slice (some ad1149) l1168.length C909), (58, .int .i64 a915), (61, .pointer (some ⟨g906, 0, none⟩)), (62, .slice (some ad1149) l1168.length C909), (63, .int .i64 a915), (64, .pointer (some ((ad1149.add (a915.toNat * 1)).add 0))), (68, .agg #[.int .i64 a916, .int .i32 a917]), (69, .slice (some ⟨g1233, 0, none⟩) l1163.length 1), (71, .pointer (some ((ad1149.add (a915.toNat * 1)).add 0)))] (by simp only [hl1168, List.length_set]) ?_
                refine ED.done (by kernel_rfl) ?_
                refine EQ.to ?_
                refine EQ.keep [10, 11] [(10, .int .i32 t1152), (11, .bool (t1153))] (by kernel_rfl) ?_
                exact fun a ha => ⟨(some ⟨g1233, 0, none⟩), 1, ha, (hS.re [3, 3, 3, 3] [] rfl (sub_self))⟩
        · refine EO.lit hS kS69 69 76 1 #[(0, .agg #[.int .i64 a916, .int .i32 a917])] [.int .i64 a916, .int .i32 a917] l1163 69 (by kernel_rfl) (by kernel_rfl) (by kernel_rfl) (fun _ => (by kernel_rfl)) (by rw [hl1163]; rfl) (by kernel_rfl) (fun w G hr => (by rw [hl1163]; exact ⟨[.int .i64 a916, .int .i32 a917], [], rfl, ⟨[.int .i64 a916], [.int .i32 a917], rfl, rfl, ⟨[.int .i32 a917], [], rfl, rfl, rfl⟩⟩, rfl⟩)) ?_
          intro g1240 w hS
          have hC : Core B [Ass.own 3 (Kd.int .i64) A912 C913 l911] [] _ := ⟨_, _, hS.re [4] [] rfl sub_self⟩
          refine ⟨hC, ?_⟩
          refine ED.at' #[true, true, true, false, true, true, true, true, false, true, false, false, true, true, true, true, false, false, false] (by kernel_rfl) ?_
          refine ED.two 3 8 6 (by kernel_rfl) (by kernel_rfl) ?_ ?_
          · refine EO.Y (YO.loadBox hS 2 rfl 73 0 1 (.slice (some ad1149) l907.length C909) 57 (by kernel_rfl) (by kernel_rfl) (by kernel_rfl) (by kernel_rfl)) ?_
            have hC : Core B [Ass.own 3 (Kd.int .i64) A912 C913 l911] [] _ := ⟨_, _, hS.re [4] [] rfl sub_self⟩
            refine ⟨hC, ?_⟩
            refine ED.at' #[true, true, true, true, true, true, true, true, false, true, false, false, true, true, true, true, false, false, false] (by kernel_rfl) ?_
            refine ED.one 8 5 #[true, true, true, true, true, true, true, true, true, true, false, false, true, true, true, true, false, false, false] (by kernel_rfl) (by kernel_rfl) (by kernel_rfl) (EO.Y (YO.loadBox hS 2 rfl 73 0 1 (.slice (some ad1149) l907.length C909) 62 (by kernel_rfl) (by kernel_rfl) (by kernel_rfl) (by kernel_rfl)) ?_)
            have hC : Core B [Ass.own 3 (Kd.int .i64) A912 C913 l911] [] _ := ⟨_, _, hS.re [4] [] rfl sub_self⟩
            refine ⟨hC, ?_⟩
            refine ED.Y hN hF hC 10 4 #[true, true, true, true, true, true, true, true, true, true, true, false, true, true, true, true, false, false, false] (by kernel_rfl) (by kernel_rfl) rfl (fun _ _ _ hS => YO.idx 73 1 ad1149 l907.length C909 .i64 a915 64 (by kernel_rfl) (by kernel_rfl) (by kernel_rfl) (by kernel_rfl) h1147 h1148) ?_
            refine ED.one 11 3 #[true, true, true, true, true, true, true, true, true, true, true, true, true, true, true, true, false, false, false] (by kernel_rfl) (by kernel_rfl) (by kernel_rfl) (EO.Y (YO.loadHole hS 3 ad1149 (j := a915) rfl h1147 76 65 (by kernel_rfl) (by kernel_rfl) (by kernel_rfl) (by kernel_rfl)) ?_)
            have hC : Core B [Ass.own 3 (Kd.int .i64) A912 C913 l911] [] _ := ⟨_, _, hS.re [4] [] rfl sub_self⟩
            refine ⟨hC, ?_⟩
            refine ED.one 16 2 #[true, true, true, true, true, true, true, true, true, true, true, true, true, true, true, true, true, false, false] (by kernel_rfl) (by kernel_rfl) (by kernel_rfl) (EO.append hS 76 76 69 16 1 kS69 A1150 C1151 (l907.getD a915.toNat []) rfl (some ⟨g1240, 0, none⟩) 1 l1163 (Rd.own 0 69 rfl) l1165 hl1165 (fun A1241 C1242 => Ass.own 69 kS69 (some ⟨g1240, 0, none⟩) 1 l1163 :: Ass.own 69 kS69 A1241 C1242 l1165 :: Ass.box 95 g906 [.slice (some ad1149) l907.length C909, .slice A912 l911.length C913] :: Ass.holed 76 69 kS69 (some ad1149) C909 l907 a915.toNat (A1150, (l907.getD a915.toNat []).length, C1151) :: Ass.own 3 (Kd.int .i64) A912 C913 l911 :: os) 70 (by kernel_rfl) (by kernel_rfl) (by kernel_rfl) (by kernel_rfl) h1164 (fun _ _ => rfl) ?_)
            intro A1241 C1242 w hS
            have hC : Core B [Ass.own 3 (Kd.int .i64) A912 C913 l911] [] _ := ⟨_, _, hS.re [4] [] rfl sub_self⟩
            refine ⟨hC, ?_⟩
            refine ED.Y hN hF hC 17 1 #[true, true, true, true, true, true, true, true, true, true, true, true, true, true, true, true, true, true, false] (by kernel_rfl) (by kernel_rfl) rfl (fun _ _ _ hS => YO.idx 73 1 ad1149 l907.length C909 .i64 a915 71 (by kernel_rfl) (by kernel_rfl) (by kernel_rfl) (by kernel_rfl) h1147 h1148) ?_
            refine ED.one 18 0 #[true, true, true, true, true, true, true, true, true, true, true, true, true, true, true, true, true, true, true] (by kernel_rfl) (by kernel_rfl) (by kernel_rfl) (EO.closeEl hS 1 2 ad1149 a915 rfl rfl h1147 l1168 hl1168 (Ass.own 69 kS69 (some ⟨g1240, 0, none⟩) 1 l1163 :: Ass.box 95 g906 [.slice (some ad1149) l907.length C909, .slice A912 l911.length C913] :: Ass.deep 76 69 kS69 (some ad1149) C909 l1168 :: Ass.own 3 (Kd.int .i64) A912 C913 l911 :: os) 76 (by kernel_rfl) (by kernel_rfl) (by kernel_rfl) (by kernel_rfl) rfl ?_)
            intro w hS
            have hS : St B w (Ass.own 69 kS69 (some ⟨g1240, 0, none⟩) 1 l1163 :: Ass.box 95 g906 [.slice (some ad1149) l1168.length C909, .slice A912 l911.length C913] :: Ass.deep 76 69 kS69 (some ad1149) C909 l1168 :: Ass.own 3 (Kd.int .i64) A912 C913 l911 :: os) (rs) := by simpa only [hl1168, List.length_set] using hS
            have hC : Core B [Ass.own 3 (Kd.int .i64) A912 C913 l911] [] _ := ⟨_, _, hS.re [3] [] rfl sub_self⟩
            refine ⟨hC, ?_⟩
            refine ED.keep [10, 11, 56, 57, 58, 61, 62, 63, 64, 68, 69, 71] [(10, .int .i32 t1152), (11, .bool (t1153)), (56, .pointer (some ⟨g906, 0, none⟩)), (57, .slice (some ad1149) l907.length C909), (58, .int .i64 a915), (61, .pointer (some ⟨g906, 0, none⟩)), (62, .slice (some ad1149) l907.length C909), (63, .int .i64 a915), (64, .pointer (some ((ad1149.add (a915.toNat * 1)).add 0))), (68, .agg #[.int .i64 a916, .int .i32 a917]), (69, .slice (some ⟨g1240, 0, none⟩) l1163.length 1), (71, .pointer (some ((ad1149.add (a915.toNat * 1)).add 0)))] (by kernel_rfl) ?_
            refine ED.as' [(10, .int .i32 t1152), (11, .bool (t1153)), (56, .pointer (some ⟨g906, 0, none⟩)), (57, .slice (some ad1149) l1168.length C909), (58, .int .i64 a915), (61, .pointer (some ⟨g906, 0, none⟩)), (62, .slice (some ad1149) l1168.length C909), (63, .int .i64 a915), (64, .pointer (some ((ad1149.add (a915.toNat * 1)).add 0))), (68, .agg #[.int .i64 a916, .int .i32 a917]), (69, .slice (some ⟨g1240, 0, none⟩) l1163.length 1), (71, .pointer (some ((ad1149.add (a915.toNat * 1)).add 0)))] (by simp only [hl1168, List.length_set]) ?_
            refine ED.done (by kernel_rfl) ?_
            refine EQ.to ?_
            refine EQ.keep [10, 11] [(10, .int .i32 t1152), (11, .bool (t1153))] (by kernel_rfl) ?_
            exact fun a ha => ⟨(some ⟨g1240, 0, none⟩), 1, ha, (hS.re [3, 3, 3, 3] [] rfl (sub_self))⟩
          · refine EO.Y (YO.loadBox hS 2 rfl 73 0 1 (.slice (some ad1149) l907.length C909) 62 (by kernel_rfl) (by kernel_rfl) (by kernel_rfl) (by kernel_rfl)) ?_
            have hC : Core B [Ass.own 3 (Kd.int .i64) A912 C913 l911] [] _ := ⟨_, _, hS.re [4] [] rfl sub_self⟩
            refine ⟨hC, ?_⟩
            refine ED.at' #[true, true, true, false, true, true, true, true, true, true, false, false, true, true, true, true, false, false, false] (by kernel_rfl) ?_
            refine ED.Y hN hF hC 10 5 #[true, true, true, false, true, true, true, true, true, true, true, false, true, true, true, true, false, false, false] (by kernel_rfl) (by kernel_rfl) rfl (fun _ _ _ hS => YO.idx 73 1 ad1149 l907.length C909 .i64 a915 64 (by kernel_rfl) (by kernel_rfl) (by kernel_rfl) (by kernel_rfl) h1147 h1148) ?_
            refine ED.two 3 11 4 (by kernel_rfl) (by kernel_rfl) ?_ ?_
            · refine EO.Y (YO.loadBox hS 2 rfl 73 0 1 (.slice (some ad1149) l907.length C909) 57 (by kernel_rfl) (by kernel_rfl) (by kernel_rfl) (by kernel_rfl)) ?_
              have hC : Core B [Ass.own 3 (Kd.int .i64) A912 C913 l911] [] _ := ⟨_, _, hS.re [4] [] rfl sub_self⟩
              refine ⟨hC, ?_⟩
              refine ED.at' #[true, true, true, true, true, true, true, true, true, true, true, false, true, true, true, true, false, false, false] (by kernel_rfl) ?_
              refine ED.one 11 3 #[true, true, true, true, true, true, true, true, true, true, true, true, true, true, true, true, false, false, false] (by kernel_rfl) (by kernel_rfl) (by kernel_rfl) (EO.Y (YO.loadHole hS 3 ad1149 (j := a915) rfl h1147 76 65 (by kernel_rfl) (by kernel_rfl) (by kernel_rfl) (by kernel_rfl)) ?_)
              have hC : Core B [Ass.own 3 (Kd.int .i64) A912 C913 l911] [] _ := ⟨_, _, hS.re [4] [] rfl sub_self⟩
              refine ⟨hC, ?_⟩
              refine ED.one 16 2 #[true, true, true, true, true, true, true, true, true, true, true, true, true, true, true, true, true, false, false] (by kernel_rfl) (by kernel_rfl) (by kernel_rfl) (EO.append hS 76 76 69 16 1 kS69 A1150 C1151 (l907.getD a915.toNat []) rfl (some ⟨g1240, 0, none⟩) 1 l1163 (Rd.own 0 69 rfl) l1165 hl1165 (fun A1243 C1244 => Ass.own 69 kS69 (some ⟨g1240, 0, none⟩) 1 l1163 :: Ass.own 69 kS69 A1243 C1244 l1165 :: Ass.box 95 g906 [.slice (some ad1149) l907.length C909, .slice A912 l911.length C913] :: Ass.holed 76 69 kS69 (some ad1149) C909 l907 a915.toNat (A1150, (l907.getD a915.toNat []).length, C1151) :: Ass.own 3 (Kd.int .i64) A912 C913 l911 :: os) 70 (by kernel_rfl) (by kernel_rfl) (by kernel_rfl) (by kernel_rfl) h1164 (fun _ _ => rfl) ?_)
              intro A1243 C1244 w hS
              have hC : Core B [Ass.own 3 (Kd.int .i64) A912 C913 l911] [] _ := ⟨_, _, hS.re [4] [] rfl sub_self⟩
              refine ⟨hC, ?_⟩
              refine ED.Y hN hF hC 17 1 #[true, true, true, true, true, true, true, true, true, true, true, true, true, true, true, true, true, true, false] (by kernel_rfl) (by kernel_rfl) rfl (fun _ _ _ hS => YO.idx 73 1 ad1149 l907.length C909 .i64 a915 71 (by kernel_rfl) (by kernel_rfl) (by kernel_rfl) (by kernel_rfl) h1147 h1148) ?_
              refine ED.one 18 0 #[true, true, true, true, true, true, true, true, true, true, true, true, true, true, true, true, true, true, true] (by kernel_rfl) (by kernel_rfl) (by kernel_rfl) (EO.closeEl hS 1 2 ad1149 a915 rfl rfl h1147 l1168 hl1168 (Ass.own 69 kS69 (some ⟨g1240, 0, none⟩) 1 l1163 :: Ass.box 95 g906 [.slice (some ad1149) l907.length C909, .slice A912 l911.length C913] :: Ass.deep 76 69 kS69 (some ad1149) C909 l1168 :: Ass.own 3 (Kd.int .i64) A912 C913 l911 :: os) 76 (by kernel_rfl) (by kernel_rfl) (by kernel_rfl) (by kernel_rfl) rfl ?_)
              intro w hS
              have hS : St B w (Ass.own 69 kS69 (some ⟨g1240, 0, none⟩) 1 l1163 :: Ass.box 95 g906 [.slice (some ad1149) l1168.length C909, .slice A912 l911.length C913] :: Ass.deep 76 69 kS69 (some ad1149) C909 l1168 :: Ass.own 3 (Kd.int .i64) A912 C913 l911 :: os) (rs) := by simpa only [hl1168, List.length_set] using hS
              have hC : Core B [Ass.own 3 (Kd.int .i64) A912 C913 l911] [] _ := ⟨_, _, hS.re [3] [] rfl sub_self⟩
              refine ⟨hC, ?_⟩
              refine ED.keep [10, 11, 56, 57, 58, 61, 62, 63, 64, 68, 69, 71] [(10, .int .i32 t1152), (11, .bool (t1153)), (56, .pointer (some ⟨g906, 0, none⟩)), (57, .slice (some ad1149) l907.length C909), (58, .int .i64 a915), (61, .pointer (some ⟨g906, 0, none⟩)), (62, .slice (some ad1149) l907.length C909), (63, .int .i64 a915), (64, .pointer (some ((ad1149.add (a915.toNat * 1)).add 0))), (68, .agg #[.int .i64 a916, .int .i32 a917]), (69, .slice (some ⟨g1240, 0, none⟩) l1163.length 1), (71, .pointer (some ((ad1149.add (a915.toNat * 1)).add 0)))] (by kernel_rfl) ?_
              refine ED.as' [(10, .int .i32 t1152), (11, .bool (t1153)), (56, .pointer (some ⟨g906, 0, none⟩)), (57, .slice (some ad1149) l1168.length C909), (58, .int .i64 a915), (61, .pointer (some ⟨g906, 0, none⟩)), (62, .slice (some ad1149) l1168.length C909), (63, .int .i64 a915), (64, .pointer (some ((ad1149.add (a915.toNat * 1)).add 0))), (68, .agg #[.int .i64 a916, .int .i32 a917]), (69, .slice (some ⟨g1240, 0, none⟩) l1163.length 1), (71, .pointer (some ((ad1149.add (a915.toNat * 1)).add 0)))] (by simp only [hl1168, List.length_set]) ?_
              refine ED.done (by kernel_rfl) ?_
              refine EQ.to ?_
              refine EQ.keep [10, 11] [(10, .int .i32 t1152), (11, .bool (t1153))] (by kernel_rfl) ?_
              exact fun a ha => ⟨(some ⟨g1240, 0, none⟩), 1, ha, (hS.re [3, 3, 3, 3] [] rfl (sub_self))⟩
            · refine EO.Y (YO.loadHole hS 3 ad1149 (j := a915) rfl h1147 76 65 (by kernel_rfl) (by kernel_rfl) (by kernel_rfl) (by kernel_rfl)) ?_
              have hC : Core B [Ass.own 3 (Kd.int .i64) A912 C913 l911] [] _ := ⟨_, _, hS.re [4] [] rfl sub_self⟩
              refine ⟨hC, ?_⟩
              refine ED.at' #[true, true, true, false, true, true, true, true, true, true, true, true, true, true, true, true, false, false, false] (by kernel_rfl) ?_
              refine ED.two 3 16 3 (by kernel_rfl) (by kernel_rfl) ?_ ?_
              · refine EO.Y (YO.loadBox hS 2 rfl 73 0 1 (.slice (some ad1149) l907.length C909) 57 (by kernel_rfl) (by kernel_rfl) (by kernel_rfl) (by kernel_rfl)) ?_
                have hC : Core B [Ass.own 3 (Kd.int .i64) A912 C913 l911] [] _ := ⟨_, _, hS.re [4] [] rfl sub_self⟩
                refine ⟨hC, ?_⟩
                refine ED.at' #[true, true, true, true, true, true, true, true, true, true, true, true, true, true, true, true, false, false, false] (by kernel_rfl) ?_
                refine ED.one 16 2 #[true, true, true, true, true, true, true, true, true, true, true, true, true, true, true, true, true, false, false] (by kernel_rfl) (by kernel_rfl) (by kernel_rfl) (EO.append hS 76 76 69 16 1 kS69 A1150 C1151 (l907.getD a915.toNat []) rfl (some ⟨g1240, 0, none⟩) 1 l1163 (Rd.own 0 69 rfl) l1165 hl1165 (fun A1245 C1246 => Ass.own 69 kS69 (some ⟨g1240, 0, none⟩) 1 l1163 :: Ass.own 69 kS69 A1245 C1246 l1165 :: Ass.box 95 g906 [.slice (some ad1149) l907.length C909, .slice A912 l911.length C913] :: Ass.holed 76 69 kS69 (some ad1149) C909 l907 a915.toNat (A1150, (l907.getD a915.toNat []).length, C1151) :: Ass.own 3 (Kd.int .i64) A912 C913 l911 :: os) 70 (by kernel_rfl) (by kernel_rfl) (by kernel_rfl) (by kernel_rfl) h1164 (fun _ _ => rfl) ?_)
                intro A1245 C1246 w hS
                have hC : Core B [Ass.own 3 (Kd.int .i64) A912 C913 l911] [] _ := ⟨_, _, hS.re [4] [] rfl sub_self⟩
                refine ⟨hC, ?_⟩
                refine ED.Y hN hF hC 17 1 #[true, true, true, true, true, true, true, true, true, true, true, true, true, true, true, true, true, true, false] (by kernel_rfl) (by kernel_rfl) rfl (fun _ _ _ hS => YO.idx 73 1 ad1149 l907.length C909 .i64 a915 71 (by kernel_rfl) (by kernel_rfl) (by kernel_rfl) (by kernel_rfl) h1147 h1148) ?_
                refine ED.one 18 0 #[true, true, true, true, true, true, true, true, true, true, true, true, true, true, true, true, true, true, true] (by kernel_rfl) (by kernel_rfl) (by kernel_rfl) (EO.closeEl hS 1 2 ad1149 a915 rfl rfl h1147 l1168 hl1168 (Ass.own 69 kS69 (some ⟨g1240, 0, none⟩) 1 l1163 :: Ass.box 95 g906 [.slice (some ad1149) l907.length C909, .slice A912 l911.length C913] :: Ass.deep 76 69 kS69 (some ad1149) C909 l1168 :: Ass.own 3 (Kd.int .i64) A912 C913 l911 :: os) 76 (by kernel_rfl) (by kernel_rfl) (by kernel_rfl) (by kernel_rfl) rfl ?_)
                intro w hS
                have hS : St B w (Ass.own 69 kS69 (some ⟨g1240, 0, none⟩) 1 l1163 :: Ass.box 95 g906 [.slice (some ad1149) l1168.length C909, .slice A912 l911.length C913] :: Ass.deep 76 69 kS69 (some ad1149) C909 l1168 :: Ass.own 3 (Kd.int .i64) A912 C913 l911 :: os) (rs) := by simpa only [hl1168, List.length_set] using hS
                have hC : Core B [Ass.own 3 (Kd.int .i64) A912 C913 l911] [] _ := ⟨_, _, hS.re [3] [] rfl sub_self⟩
                refine ⟨hC, ?_⟩
                refine ED.keep [10, 11, 56, 57, 58, 61, 62, 63, 64, 68, 69, 71] [(10, .int .i32 t1152), (11, .bool (t1153)), (56, .pointer (some ⟨g906, 0, none⟩)), (57, .slice (some ad1149) l907.length C909), (58, .int .i64 a915), (61, .pointer (some ⟨g906, 0, none⟩)), (62, .slice (some ad1149) l907.length C909), (63, .int .i64 a915), (64, .pointer (some ((ad1149.add (a915.toNat * 1)).add 0))), (68, .agg #[.int .i64 a916, .int .i32 a917]), (69, .slice (some ⟨g1240, 0, none⟩) l1163.length 1), (71, .pointer (some ((ad1149.add (a915.toNat * 1)).add 0)))] (by kernel_rfl) ?_
                refine ED.as' [(10, .int .i32 t1152), (11, .bool (t1153)), (56, .pointer (some ⟨g906, 0, none⟩)), (57, .slice (some ad1149) l1168.length C909), (58, .int .i64 a915), (61, .pointer (some ⟨g906, 0, none⟩)), (62, .slice (some ad1149) l1168.length C909), (63, .int .i64 a915), (64, .pointer (some ((ad1149.add (a915.toNat * 1)).add 0))), (68, .agg #[.int .i64 a916, .int .i32 a917]), (69, .slice (some ⟨g1240, 0, none⟩) l1163.length 1), (71, .pointer (some ((ad1149.add (a915.toNat * 1)).add 0)))] (by simp only [hl1168, List.length_set]) ?_
                refine ED.done (by kernel_rfl) ?_
                refine EQ.to ?_
                refine EQ.keep [10, 11] [(10, .int .i32 t1152), (11, .bool (t1153))] (by kernel_rfl) ?_
                exact fun a ha => ⟨(some ⟨g1240, 0, none⟩), 1, ha, (hS.re [3, 3, 3, 3] [] rfl (sub_self))⟩
              · refine EO.append hS 76 76 69 16 1 kS69 A1150 C1151 (l907.getD a915.toNat []) rfl (some ⟨g1240, 0, none⟩) 1 l1163 (Rd.own 0 69 rfl) l1165 hl1165 (fun A1247 C1248 => Ass.own 69 kS69 (some ⟨g1240, 0, none⟩) 1 l1163 :: Ass.own 69 kS69 A1247 C1248 l1165 :: Ass.box 95 g906 [.slice (some ad1149) l907.length C909, .slice A912 l911.length C913] :: Ass.holed 76 69 kS69 (some ad1149) C909 l907 a915.toNat (A1150, (l907.getD a915.toNat []).length, C1151) :: Ass.own 3 (Kd.int .i64) A912 C913 l911 :: os) 70 (by kernel_rfl) (by kernel_rfl) (by kernel_rfl) (by kernel_rfl) h1164 (fun _ _ => rfl) ?_
                intro A1247 C1248 w hS
                have hC : Core B [Ass.own 3 (Kd.int .i64) A912 C913 l911] [] _ := ⟨_, _, hS.re [4] [] rfl sub_self⟩
                refine ⟨hC, ?_⟩
                refine ED.at' #[true, true, true, false, true, true, true, true, true, true, true, true, true, true, true, true, true, false, false] (by kernel_rfl) ?_
                refine ED.one 3 2 #[true, true, true, true, true, true, true, true, true, true, true, true, true, true, true, true, true, false, false] (by kernel_rfl) (by kernel_rfl) (by kernel_rfl) (EO.Y (YO.loadBox hS 2 rfl 73 0 1 (.slice (some ad1149) l907.length C909) 57 (by kernel_rfl) (by kernel_rfl) (by kernel_rfl) (by kernel_rfl)) ?_)
                have hC : Core B [Ass.own 3 (Kd.int .i64) A912 C913 l911] [] _ := ⟨_, _, hS.re [4] [] rfl sub_self⟩
                refine ⟨hC, ?_⟩
                refine ED.Y hN hF hC 17 1 #[true, true, true, true, true, true, true, true, true, true, true, true, true, true, true, true, true, true, false] (by kernel_rfl) (by kernel_rfl) rfl (fun _ _ _ hS => YO.idx 73 1 ad1149 l907.length C909 .i64 a915 71 (by kernel_rfl) (by kernel_rfl) (by kernel_rfl) (by kernel_rfl) h1147 h1148) ?_
                refine ED.one 18 0 #[true, true, true, true, true, true, true, true, true, true, true, true, true, true, true, true, true, true, true] (by kernel_rfl) (by kernel_rfl) (by kernel_rfl) (EO.closeEl hS 1 2 ad1149 a915 rfl rfl h1147 l1168 hl1168 (Ass.own 69 kS69 (some ⟨g1240, 0, none⟩) 1 l1163 :: Ass.box 95 g906 [.slice (some ad1149) l907.length C909, .slice A912 l911.length C913] :: Ass.deep 76 69 kS69 (some ad1149) C909 l1168 :: Ass.own 3 (Kd.int .i64) A912 C913 l911 :: os) 76 (by kernel_rfl) (by kernel_rfl) (by kernel_rfl) (by kernel_rfl) rfl ?_)
                intro w hS
                have hS : St B w (Ass.own 69 kS69 (some ⟨g1240, 0, none⟩) 1 l1163 :: Ass.box 95 g906 [.slice (some ad1149) l1168.length C909, .slice A912 l911.length C913] :: Ass.deep 76 69 kS69 (some ad1149) C909 l1168 :: Ass.own 3 (Kd.int .i64) A912 C913 l911 :: os) (rs) := by simpa only [hl1168, List.length_set] using hS
                have hC : Core B [Ass.own 3 (Kd.int .i64) A912 C913 l911] [] _ := ⟨_, _, hS.re [3] [] rfl sub_self⟩
                refine ⟨hC, ?_⟩
                refine ED.keep [10, 11, 56, 57, 58, 61, 62, 63, 64, 68, 69, 71] [(10, .int .i32 t1152), (11, .bool (t1153)), (56, .pointer (some ⟨g906, 0, none⟩)), (57, .slice (some ad1149) l907.length C909), (58, .int .i64 a915), (61, .pointer (some ⟨g906, 0, none⟩)), (62, .slice (some ad1149) l907.length C909), (63, .int .i64 a915), (64, .pointer (some ((ad1149.add (a915.toNat * 1)).add 0))), (68, .agg #[.int .i64 a916, .int .i32 a917]), (69, .slice (some ⟨g1240, 0, none⟩) l1163.length 1), (71, .pointer (some ((ad1149.add (a915.toNat * 1)).add 0)))] (by kernel_rfl) ?_
                refine ED.as' [(10, .int .i32 t1152), (11, .bool (t1153)), (56, .pointer (some ⟨g906, 0, none⟩)), (57, .slice (some ad1149) l1168.length C909), (58, .int .i64 a915), (61, .pointer (some ⟨g906, 0, none⟩)), (62, .slice (some ad1149) l1168.length C909), (63, .int .i64 a915), (64, .pointer (some ((ad1149.add (a915.toNat * 1)).add 0))), (68, .agg #[.int .i64 a916, .int .i32 a917]), (69, .slice (some ⟨g1240, 0, none⟩) l1163.length 1), (71, .pointer (some ((ad1149.add (a915.toNat * 1)).add 0)))] (by simp only [hl1168, List.length_set]) ?_
                refine ED.done (by kernel_rfl) ?_
                refine EQ.to ?_
                refine EQ.keep [10, 11] [(10, .int .i32 t1152), (11, .bool (t1153))] (by kernel_rfl) ?_
                exact fun a ha => ⟨(some ⟨g1240, 0, none⟩), 1, ha, (hS.re [3, 3, 3, 3] [] rfl (sub_self))⟩
      · obtain ⟨A1208, C1209, ha, hS⟩ := hI
        refine EQ.at ?_ a ha
        clear ha a
        refine EQ.code ?_
        refine EW.seq (x := Cd36.r.r.r.r.l) (y := Cd36.r.r.r.r.r) (by kernel_rfl) ?_
        refine EW.region (id := 5) (ops := Cd36.r.r.r.r.l.ops) (by kernel_rfl) ?_
        refine EL.quick 4 [8, 9] [(8, .int .i32 t1152), (9, .bool (t1153))] (by kernel_rfl) ?_
        refine EL.done (by kernel_rfl) ?_
        refine EQ.code ?_
        refine EW.ret (by kernel_rfl) ?_
        simp only [Option.some.injEq, Prod.mk.injEq] at H
        obtain ⟨rfl, rfl, rfl⟩ := H
        exact EQ.leave (.tuple #[.int .i32 t1152, .bool (t1153)]) (by kernel_rfl) ⟨_, rfl, (some ad1149), C909, rfl, (hS.re [3, 3, 3] [3] rfl (sub_self))⟩

/-! ### confidant/ident.Label$1: function 64 -/
def ident_Label_1.f (K : Nat) (a1311 : Int) : Option Int := some (IntKind.i64.wrap (Int.tdiv a1311 65536))
set_option maxRecDepth 100000 in
theorem ident_Label_1.calls {K : Nat} {a1311 : Int} {x1312 : Int} {B w : World} {os : List Ass} {rs : List Ro} (H : ident_Label_1.f K a1311 = some x1312) (hS : St B w (os) (rs)) :
    Calls Try.prog 64 [.int .i64 a1311].toArray w (fun en w' => ∃ v, en = .returned v ∧ v = .int .i64 x1312 ∧ St B w' (os) (rs)) := by
  unfold ident_Label_1.f at H
  refine calls_of_EW (args := [.int .i64 a1311]) (c := Cd64) 5 Try.func64 (by kernel_rfl) (by kernel_rfl) (by kernel_rfl) ?_
  refine EW.seq (x := Cd64.l) (y := Cd64.r) (by kernel_rfl) ?_
  refine EW.region (id := 0) (ops := Cd64.l.ops) (by kernel_rfl) ?_
  refine EL.quick 1 [0] [(0, .int .i64 a1311)] (by kernel_rfl) ?_
  refine EL.done (by kernel_rfl) ?_
  refine EQ.code ?_
  refine EW.seq (x := Cd64.r.l) (y := Cd64.r.r) (by kernel_rfl) ?_
  refine EW.region (id := 1) (ops := Cd64.r.l.ops) (by kernel_rfl) ?_
  refine EL.quick 3 [2] [(2, .int .i64 (IntKind.i64.wrap (Int.tdiv a1311 65536)))] (by kernel_rfl) ?_
  refine EL.done (by kernel_rfl) ?_
  refine EQ.code ?_
  refine EW.ret (by kernel_rfl) ?_
  obtain rfl := Option.some.inj H
  exact EQ.leave (.int .i64 (IntKind.i64.wrap (Int.tdiv a1311 65536))) (by kernel_rfl) ⟨_, rfl, rfl, (hS.re [] [] rfl (sub_self))⟩

/-! ### confidant/ident.Label: function 59 -/
def ident_Label.f (K : Nat) (a1308 : Int) : Option Int := lt (fun (x1336 : Int) => (some x1336)) fun j1337 => (if a1308 < 0 then (j1337 (-1)) else (b1 (ident_Label_1.f K (IntKind.i64.wrap a1308)) fun (t1340 : Int) => (j1337 t1340)))
set_option maxRecDepth 100000 in
theorem ident_Label.calls {K : Nat} {a1308 : Int} {x1326 : Int} {B w : World} {os : List Ass} {rs : List Ro} (H : ident_Label.f K a1308 = some x1326) (hS : St B w (os) (rs)) :
    Calls Try.prog 59 [.int .i32 a1308].toArray w (fun en w' => ∃ v, en = .returned v ∧ v = .int .i64 x1326 ∧ St B w' (os) (rs)) := by
  unfold ident_Label.f at H
  refine calls_of_EW (args := [.int .i32 a1308]) (c := Cd59) 5 Try.func59 (by kernel_rfl) (by kernel_rfl) (by kernel_rfl) ?_
  refine EW.seq (x := Cd59.l) (y := Cd59.r) (by kernel_rfl) ?_
  refine EW.region (id := 0) (ops := Cd59.l.ops) (by kernel_rfl) ?_
  refine EL.quick 1 [0] [(0, .int .i32 a1308)] (by kernel_rfl) ?_
  refine EL.done (by kernel_rfl) ?_
  refine EQ.code ?_
  refine EW.seq (x := Cd59.r.l) (y := Cd59.r.r) (by kernel_rfl) ?_
  refine EW.region (id := 1) (ops := Cd59.r.l.ops) (by kernel_rfl) ?_
  refine EL.quick 1 [3] [(3, .int .i32 a1308)] (by kernel_rfl) ?_
  obtain ⟨j1337, hj1337, H⟩ := lt_out H
  refine EL.of (EO.callD 63 [.int .i32 a1308, .func (.func 64) #[] #[]] (fun v w => ∃ x1336 : Int, v = .int .i64 x1336 ∧ St B w (os) (rs) ∧ j1337 x1336 = some x1326) 4 (by kernel_rfl) (by kernel_rfl) (by kernel_rfl) ?_ ?_)
  · refine calls_of_EW (args := [.int .i32 a1308, .func (.func 64) #[] #[]]) (c := Cd63) 11 Try.func63 (by kernel_rfl) (by kernel_rfl) (by kernel_rfl) ?_
    refine EW.seq (x := Cd63.l) (y := Cd63.r) (by kernel_rfl) ?_
    refine EW.region (id := 0) (ops := Cd63.l.ops) (by kernel_rfl) ?_
    refine EL.quick 1 [0, 1] [(0, .int .i32 a1308), (1, .func (.func 64) #[] #[])] (by kernel_rfl) ?_
    refine EL.done (by kernel_rfl) ?_
    refine EQ.code ?_
    refine EW.seq (x := Cd63.r.l) (y := Cd63.r.r) (by kernel_rfl) ?_
    refine EW.seq (x := Cd63.r.l.l) (y := Cd63.r.l.r) (by kernel_rfl) ?_
    refine EW.region (id := 1) (ops := Cd63.r.l.l.ops) (by kernel_rfl) ?_
    refine EL.quick 2 [0, 1, 6] [(0, .int .i32 a1308), (1, .func (.func 64) #[] #[]), (6, .bool (decide (a1308 < 0)))] (by kernel_rfl) ?_
    refine EL.done (by kernel_rfl) ?_
    refine EQ.code ?_
    refine EW.condP (o := (.tmp 6)) (x := Cd63.r.l.r.l) (y := Cd63.r.l.r.r) (a1308 < 0) (by kernel_rfl) (by kernel_rfl) (fun h1339 => ?_) (fun h1339 => ?_)
    · rw [if_pos h1339] at H
      refine EW.seq (x := Cd63.r.l.r.l.l) (y := Cd63.r.l.r.l.r) (by kernel_rfl) ?_
      refine EW.region (id := 2) (ops := Cd63.r.l.r.l.l.ops) (by kernel_rfl) ?_
      refine EL.quick 1 [4] [(4, .int .i64 (-1))] (by kernel_rfl) ?_
      refine EL.done (by kernel_rfl) ?_
      refine EQ.code ?_
      refine EW.ret (by kernel_rfl) ?_
      refine EQ.ret ?_
      exact EQ.leave (.int .i64 (-1)) (by kernel_rfl) ⟨_, rfl, (-1), rfl, (hS.re [] [] rfl (sub_self)), H⟩
    · rw [if_neg h1339] at H
      refine EW.skip (by kernel_rfl) ?_
      refine EQ.code ?_
      refine EW.seq (x := Cd63.r.r.l) (y := Cd63.r.r.r) (by kernel_rfl) ?_
      refine EW.region (id := 3) (ops := Cd63.r.r.l.ops) (by kernel_rfl) ?_
      refine EL.quick 3 [7, 9] [(7, .func (.func 64) #[] #[]), (9, .int .i64 (IntKind.i64.wrap a1308))] (by kernel_rfl) ?_
      obtain ⟨t1340, hc1341, H⟩ := b1_out H
      refine EL.of (EO.callD 64 [.int .i64 (IntKind.i64.wrap a1308)] _ 10 (by kernel_rfl) (by kernel_rfl) (by kernel_rfl) (ident_Label_1.calls hc1341 hS) ?_)
      rintro v w ⟨rfl, hS⟩
      refine EL.quick 1 [4] [(4, .int .i64 t1340)] (by kernel_rfl) ?_
      refine EL.done (by kernel_rfl) ?_
      refine EQ.code ?_
      refine EW.ret (by kernel_rfl) ?_
      exact EQ.leave (.int .i64 t1340) (by kernel_rfl) ⟨_, rfl, t1340, rfl, (hS.re [] [] rfl (sub_self)), H⟩
  · rintro v w ⟨x1336, rfl, hS, H⟩
    rw [hj1337] at H
    (try dsimp only at H)
    refine EL.quick 1 [2] [(2, .int .i64 x1336)] (by kernel_rfl) ?_
    refine EL.done (by kernel_rfl) ?_
    refine EQ.code ?_
    refine EW.ret (by kernel_rfl) ?_
    obtain rfl := Option.some.inj H
    exact EQ.leave (.int .i64 x1336) (by kernel_rfl) ⟨_, rfl, rfl, (hS.re [] [] rfl (sub_self))⟩

/-! ### confidant/ident.Number$1: function 65 -/
def ident_Number_1.f (K : Nat) (a1347 : Int) : Option Int := some (Int.tmod a1347 65536)
set_option maxRecDepth 100000 in
theorem ident_Number_1.calls {K : Nat} {a1347 : Int} {x1348 : Int} {B w : World} {os : List Ass} {rs : List Ro} (H : ident_Number_1.f K a1347 = some x1348) (hS : St B w (os) (rs)) :
    Calls Try.prog 65 [.int .i64 a1347].toArray w (fun en w' => ∃ v, en = .returned v ∧ v = .int .i64 x1348 ∧ St B w' (os) (rs)) := by
  unfold ident_Number_1.f at H
  refine calls_of_EW (args := [.int .i64 a1347]) (c := Cd65) 5 Try.func65 (by kernel_rfl) (by kernel_rfl) (by kernel_rfl) ?_
  refine EW.seq (x := Cd65.l) (y := Cd65.r) (by kernel_rfl) ?_
  refine EW.region (id := 0) (ops := Cd65.l.ops) (by kernel_rfl) ?_
  refine EL.quick 1 [0] [(0, .int .i64 a1347)] (by kernel_rfl) ?_
  refine EL.done (by kernel_rfl) ?_
  refine EQ.code ?_
  refine EW.seq (x := Cd65.r.l) (y := Cd65.r.r) (by kernel_rfl) ?_
  refine EW.region (id := 1) (ops := Cd65.r.l.ops) (by kernel_rfl) ?_
  refine EL.quick 3 [2] [(2, .int .i64 (Int.tmod a1347 65536))] (by kernel_rfl) ?_
  refine EL.done (by kernel_rfl) ?_
  refine EQ.code ?_
  refine EW.ret (by kernel_rfl) ?_
  obtain rfl := Option.some.inj H
  exact EQ.leave (.int .i64 (Int.tmod a1347 65536)) (by kernel_rfl) ⟨_, rfl, rfl, (hS.re [] [] rfl (sub_self))⟩

/-! ### confidant/ident.Number: function 60 -/
def ident_Number.f (K : Nat) (a1344 : Int) : Option Int := lt (fun (x1372 : Int) => (some x1372)) fun j1373 => (if a1344 < 0 then (j1373 (-1)) else (b1 (ident_Number_1.f K (IntKind.i64.wrap a1344)) fun (t1376 : Int) => (j1373 t1376)))
set_option maxRecDepth 100000 in
theorem ident_Number.calls {K : Nat} {a1344 : Int} {x1362 : Int} {B w : World} {os : List Ass} {rs : List Ro} (H : ident_Number.f K a1344 = some x1362) (hS : St B w (os) (rs)) :
    Calls Try.prog 60 [.int .i32 a1344].toArray w (fun en w' => ∃ v, en = .returned v ∧ v = .int .i64 x1362 ∧ St B w' (os) (rs)) := by
  unfold ident_Number.f at H
  refine calls_of_EW (args := [.int .i32 a1344]) (c := Cd60) 5 Try.func60 (by kernel_rfl) (by kernel_rfl) (by kernel_rfl) ?_
  refine EW.seq (x := Cd60.l) (y := Cd60.r) (by kernel_rfl) ?_
  refine EW.region (id := 0) (ops := Cd60.l.ops) (by kernel_rfl) ?_
  refine EL.quick 1 [0] [(0, .int .i32 a1344)] (by kernel_rfl) ?_
  refine EL.done (by kernel_rfl) ?_
  refine EQ.code ?_
  refine EW.seq (x := Cd60.r.l) (y := Cd60.r.r) (by kernel_rfl) ?_
  refine EW.region (id := 1) (ops := Cd60.r.l.ops) (by kernel_rfl) ?_
  refine EL.quick 1 [3] [(3, .int .i32 a1344)] (by kernel_rfl) ?_
  obtain ⟨j1373, hj1373, H⟩ := lt_out H
  refine EL.of (EO.callD 63 [.int .i32 a1344, .func (.func 65) #[] #[]] (fun v w => ∃ x1372 : Int, v = .int .i64 x1372 ∧ St B w (os) (rs) ∧ j1373 x1372 = some x1362) 4 (by kernel_rfl) (by kernel_rfl) (by kernel_rfl) ?_ ?_)
  · refine calls_of_EW (args := [.int .i32 a1344, .func (.func 65) #[] #[]]) (c := Cd63) 11 Try.func63 (by kernel_rfl) (by kernel_rfl) (by kernel_rfl) ?_
    refine EW.seq (x := Cd63.l) (y := Cd63.r) (by kernel_rfl) ?_
    refine EW.region (id := 0) (ops := Cd63.l.ops) (by kernel_rfl) ?_
    refine EL.quick 1 [0, 1] [(0, .int .i32 a1344), (1, .func (.func 65) #[] #[])] (by kernel_rfl) ?_
    refine EL.done (by kernel_rfl) ?_
    refine EQ.code ?_
    refine EW.seq (x := Cd63.r.l) (y := Cd63.r.r) (by kernel_rfl) ?_
    refine EW.seq (x := Cd63.r.l.l) (y := Cd63.r.l.r) (by kernel_rfl) ?_
    refine EW.region (id := 1) (ops := Cd63.r.l.l.ops) (by kernel_rfl) ?_
    refine EL.quick 2 [0, 1, 6] [(0, .int .i32 a1344), (1, .func (.func 65) #[] #[]), (6, .bool (decide (a1344 < 0)))] (by kernel_rfl) ?_
    refine EL.done (by kernel_rfl) ?_
    refine EQ.code ?_
    refine EW.condP (o := (.tmp 6)) (x := Cd63.r.l.r.l) (y := Cd63.r.l.r.r) (a1344 < 0) (by kernel_rfl) (by kernel_rfl) (fun h1375 => ?_) (fun h1375 => ?_)
    · rw [if_pos h1375] at H
      refine EW.seq (x := Cd63.r.l.r.l.l) (y := Cd63.r.l.r.l.r) (by kernel_rfl) ?_
      refine EW.region (id := 2) (ops := Cd63.r.l.r.l.l.ops) (by kernel_rfl) ?_
      refine EL.quick 1 [4] [(4, .int .i64 (-1))] (by kernel_rfl) ?_
      refine EL.done (by kernel_rfl) ?_
      refine EQ.code ?_
      refine EW.ret (by kernel_rfl) ?_
      refine EQ.ret ?_
      exact EQ.leave (.int .i64 (-1)) (by kernel_rfl) ⟨_, rfl, (-1), rfl, (hS.re [] [] rfl (sub_self)), H⟩
    · rw [if_neg h1375] at H
      refine EW.skip (by kernel_rfl) ?_
      refine EQ.code ?_
      refine EW.seq (x := Cd63.r.r.l) (y := Cd63.r.r.r) (by kernel_rfl) ?_
      refine EW.region (id := 3) (ops := Cd63.r.r.l.ops) (by kernel_rfl) ?_
      refine EL.quick 3 [7, 9] [(7, .func (.func 65) #[] #[]), (9, .int .i64 (IntKind.i64.wrap a1344))] (by kernel_rfl) ?_
      obtain ⟨t1376, hc1377, H⟩ := b1_out H
      refine EL.of (EO.callD 65 [.int .i64 (IntKind.i64.wrap a1344)] _ 10 (by kernel_rfl) (by kernel_rfl) (by kernel_rfl) (ident_Number_1.calls hc1377 hS) ?_)
      rintro v w ⟨rfl, hS⟩
      refine EL.quick 1 [4] [(4, .int .i64 t1376)] (by kernel_rfl) ?_
      refine EL.done (by kernel_rfl) ?_
      refine EQ.code ?_
      refine EW.ret (by kernel_rfl) ?_
      exact EQ.leave (.int .i64 t1376) (by kernel_rfl) ⟨_, rfl, t1376, rfl, (hS.re [] [] rfl (sub_self)), H⟩
  · rintro v w ⟨x1372, rfl, hS, H⟩
    rw [hj1373] at H
    (try dsimp only at H)
    refine EL.quick 1 [2] [(2, .int .i64 x1372)] (by kernel_rfl) ?_
    refine EL.done (by kernel_rfl) ?_
    refine EQ.code ?_
    refine EW.ret (by kernel_rfl) ?_
    obtain rfl := Option.some.inj H
    exact EQ.leave (.int .i64 x1372) (by kernel_rfl) ⟨_, rfl, rfl, (hS.re [] [] rfl (sub_self))⟩

/-! ### (*confidant/arena.Arena).Set: function 40 -/
def arena_Arena_Set.f (K : Nat) (l1287 : List (List S69)) (l1291 : List Int) (a1295 : Int) (a1296 : Int) : Option (List (List S69) × Bool) := b1 (ident_Label.f K a1295) fun (t2068 : Int) => (b1 (ident_Number.f K a1295) fun (t2070 : Int) => (lt (fun (x2112 : Bool) => (if x2112 = true then (some (l1287, false)) else (if 0 ≤ t2068 then (if t2068 < (l1287.length : Int) then (if 0 ≤ t2070 then (if t2070 < ((l1287.getD t2068.toNat []).length : Int) then (lt ((l1287.getD t2068.toNat []).set t2070.toNat (⟨((l1287.getD t2068.toNat []).getD t2070.toNat zS69).f0, a1296⟩ : S69)) fun l2131 => (some ((l1287.set t2068.toNat l2131), true))) else none) else none) else none) else none))) fun j2113 => (if t2068 < 0 then (j2113 true) else (if t2068 ≥ (l1287.length : Int) then (j2113 true) else (if 0 ≤ t2068 then (if t2068 < (l1287.length : Int) then (j2113 (decide (t2070 ≥ ((l1287.getD t2068.toNat []).length : Int)))) else none) else none)))))
set_option maxRecDepth 100000 in
theorem arena_Arena_Set.calls {K : Nat} {l1287 : List (List S69)} {l1291 : List Int} {a1295 : Int} {a1296 : Int} {g1286 : Nat} {A1288 : Option Addr} {C1289 : Nat} {A1292 : Option Addr} {C1293 : Nat} {x1862 : List (List S69)} {x1865 : Bool} {B w : World} {os : List Ass} {rs : List Ro} (H : arena_Arena_Set.f K l1287 l1291 a1295 a1296 = some (x1862, x1865)) (hS : St B w (Ass.box 95 g1286 [.slice A1288 l1287.length C1289, .slice A1292 l1291.length C1293] :: Ass.deep 76 69 kS69 A1288 C1289 l1287 :: Ass.own 3 (Kd.int .i64) A1292 C1293 l1291 :: os) (rs)) :
    Calls Try.prog 40 [.pointer (some ⟨g1286, 0, none⟩), .int .i32 a1295, .int .i32 a1296].toArray w (fun en w' => ∃ v, en = .returned v ∧ ∃ A1863 : Option Addr, ∃ C1864 : Nat, v = .bool (x1865) ∧ St B w' (Ass.box 95 g1286 [.slice A1863 x1862.length C1864, .slice A1292 l1291.length C1293] :: Ass.deep 76 69 kS69 A1863 C1864 x1862 :: Ass.own 3 (Kd.int .i64) A1292 C1293 l1291 :: os) (rs)) := by
  unfold arena_Arena_Set.f at H
  refine calls_of_EW (args := [.pointer (some ⟨g1286, 0, none⟩), .int .i32 a1295, .int .i32 a1296]) (c := Cd40) 19 Try.func40 (by kernel_rfl) (by kernel_rfl) (by kernel_rfl) ?_
  refine EW.seq (x := Cd40.l) (y := Cd40.r) (by kernel_rfl) ?_
  refine EW.region (id := 0) (ops := Cd40.l.ops) (by kernel_rfl) ?_
  refine EL.quick 1 [0, 1, 2] [(0, .pointer (some ⟨g1286, 0, none⟩)), (1, .int .i32 a1295), (2, .int .i32 a1296)] (by kernel_rfl) ?_
  refine EL.done (by kernel_rfl) ?_
  refine EQ.code ?_
  refine EW.seq (x := Cd40.r.l) (y := Cd40.r.r) (by kernel_rfl) ?_
  refine EW.region (id := 1) (ops := Cd40.r.l.ops) (by kernel_rfl) ?_
  refine EL.quick 2 [2, 8, 9] [(2, .int .i32 a1296), (8, .pointer (some ⟨g1286, 0, none⟩)), (9, .int .i32 a1295)] (by kernel_rfl) ?_
  refine EL.inline 53 [.pointer (some ⟨g1286, 0, none⟩), .int .i32 a1295] 10 (by kernel_rfl) (by kernel_rfl) (by kernel_rfl) ?_
  refine calls_of_EW (args := [.pointer (some ⟨g1286, 0, none⟩), .int .i32 a1295]) (c := Cd53) 43 Try.func53 (by kernel_rfl) (by kernel_rfl) (by kernel_rfl) ?_
  refine EW.seq (x := Cd53.l) (y := Cd53.r) (by kernel_rfl) ?_
  refine EW.region (id := 0) (ops := Cd53.l.ops) (by kernel_rfl) ?_
  refine EL.quick 1 [0, 1] [(0, .pointer (some ⟨g1286, 0, none⟩)), (1, .int .i32 a1295)] (by kernel_rfl) ?_
  refine EL.done (by kernel_rfl) ?_
  refine EQ.code ?_
  refine EW.seq (x := Cd53.r.l) (y := Cd53.r.r) (by kernel_rfl) ?_
  refine EW.region (id := 1) (ops := Cd53.r.l.ops) (by kernel_rfl) ?_
  refine EL.quick 1 [0, 1, 7] [(0, .pointer (some ⟨g1286, 0, none⟩)), (1, .int .i32 a1295), (7, .int .i32 a1295)] (by kernel_rfl) ?_
  obtain ⟨t2068, hc2069, H⟩ := b1_out H
  refine EL.of (EO.callD 59 [.int .i32 a1295] _ 8 (by kernel_rfl) (by kernel_rfl) (by kernel_rfl) (ident_Label.calls hc2069 hS) ?_)
  rintro v w ⟨rfl, hS⟩
  refine EL.quick 1 [0, 8, 9] [(0, .pointer (some ⟨g1286, 0, none⟩)), (8, .int .i64 t2068), (9, .int .i32 a1295)] (by kernel_rfl) ?_
  obtain ⟨t2070, hc2071, H⟩ := b1_out H
  refine EL.of (EO.callD 60 [.int .i32 a1295] _ 10 (by kernel_rfl) (by kernel_rfl) (by kernel_rfl) (ident_Number.calls hc2071 hS) ?_)
  rintro v w ⟨rfl, hS⟩
  refine EL.quick 2 [0, 5, 6] [(0, .pointer (some ⟨g1286, 0, none⟩)), (5, .int .i64 t2068), (6, .int .i64 t2070)] (by kernel_rfl) ?_
  refine EL.done (by kernel_rfl) ?_
  refine EQ.code ?_
  refine EW.seq (x := Cd53.r.r.l) (y := Cd53.r.r.r) (by kernel_rfl) ?_
  obtain ⟨j2113, hj2113, H⟩ := lt_out H
  refine EW.cut (x := Cd53.r.r.l.l) (y := Cd53.r.r.l.r) (fun a w => ∃ x2112 : Bool, Sat 43 [(0, .pointer (some ⟨g1286, 0, none⟩)), (5, .int .i64 t2068), (6, .int .i64 t2070), (33, .bool (x2112))] a ∧ St B w (Ass.box 95 g1286 [.slice A1288 l1287.length C1289, .slice A1292 l1291.length C1293] :: Ass.deep 76 69 kS69 A1288 C1289 l1287 :: Ass.own 3 (Kd.int .i64) A1292 C1293 l1291 :: os) (rs) ∧ j2113 x2112 = some (x1862, x1865)) (by kernel_rfl) ?_ (fun a w hI => ?_)
  · refine EW.region (id := 2) (ops := Cd53.r.r.l.l.ops) (by kernel_rfl) ?_
    refine EL.quick 3 [0, 5, 6, 13] [(0, .pointer (some ⟨g1286, 0, none⟩)), (5, .int .i64 t2068), (6, .int .i64 t2070), (13, .bool (decide (t2068 < 0)))] (by kernel_rfl) ?_
    by_cases h2114 : t2068 < 0
    · rw [if_pos h2114] at H
      refine EL.keep [0, 5, 6, 13] [(0, .pointer (some ⟨g1286, 0, none⟩)), (5, .int .i64 t2068), (6, .int .i64 t2070), (13, .bool (decide (t2068 < 0)))] (by kernel_rfl) ?_
      refine EL.as' [(0, .pointer (some ⟨g1286, 0, none⟩)), (5, .int .i64 t2068), (6, .int .i64 t2070), (13, .bool (true))] (by simp only [dec_t h2114, Bool.not_true, Bool.not_false]) ?_
      refine EL.quick 20 [0, 5, 6, 33] [(0, .pointer (some ⟨g1286, 0, none⟩)), (5, .int .i64 t2068), (6, .int .i64 t2070), (33, .bool (true))] (by kernel_rfl) ?_
      refine EL.done (by kernel_rfl) ?_
      refine EQ.to ?_
      refine EQ.keep [0, 5, 6, 33] [(0, .pointer (some ⟨g1286, 0, none⟩)), (5, .int .i64 t2068), (6, .int .i64 t2070), (33, .bool (true))] (by kernel_rfl) ?_
      exact fun a ha => ⟨true, ha, (hS.re [2, 2, 2] [] rfl (sub_self)), H⟩
    · rw [if_neg h2114] at H
      refine EL.keep [0, 5, 6, 13] [(0, .pointer (some ⟨g1286, 0, none⟩)), (5, .int .i64 t2068), (6, .int .i64 t2070), (13, .bool (decide (t2068 < 0)))] (by kernel_rfl) ?_
      refine EL.as' [(0, .pointer (some ⟨g1286, 0, none⟩)), (5, .int .i64 t2068), (6, .int .i64 t2070), (13, .bool (false))] (by simp only [dec_f h2114, Bool.not_true, Bool.not_false]) ?_
      refine EL.quick 4 [0, 5, 6, 13, 14, 17] [(0, .pointer (some ⟨g1286, 0, none⟩)), (5, .int .i64 t2068), (6, .int .i64 t2070), (13, .bool (false)), (14, .int .i64 t2068), (17, .pointer (some ⟨g1286, 0, none⟩))] (by kernel_rfl) ?_
      refine EL.of (EO.Y (YO.loadBox hS 0 rfl 73 0 1 (.slice A1288 l1287.length C1289) 18 (by kernel_rfl) (by kernel_rfl) (by kernel_rfl) (by kernel_rfl)) ?_)
      refine EL.quick 4 [0, 5, 6, 22] [(0, .pointer (some ⟨g1286, 0, none⟩)), (5, .int .i64 t2068), (6, .int .i64 t2070), (22, .bool (decide (t2068 ≥ (l1287.length : Int))))] (by kernel_rfl) ?_
      by_cases h2115 : t2068 ≥ (l1287.length : Int)
      · rw [if_pos h2115] at H
        refine EL.keep [0, 5, 6, 22] [(0, .pointer (some ⟨g1286, 0, none⟩)), (5, .int .i64 t2068), (6, .int .i64 t2070), (22, .bool (decide (t2068 ≥ (l1287.length : Int))))] (by kernel_rfl) ?_
        refine EL.as' [(0, .pointer (some ⟨g1286, 0, none⟩)), (5, .int .i64 t2068), (6, .int .i64 t2070), (22, .bool (true))] (by simp only [dec_t h2115, Bool.not_true, Bool.not_false]) ?_
        refine EL.quick 11 [0, 5, 6, 33] [(0, .pointer (some ⟨g1286, 0, none⟩)), (5, .int .i64 t2068), (6, .int .i64 t2070), (33, .bool (true))] (by kernel_rfl) ?_
        refine EL.done (by kernel_rfl) ?_
        refine EQ.to ?_
        refine EQ.keep [0, 5, 6, 33] [(0, .pointer (some ⟨g1286, 0, none⟩)), (5, .int .i64 t2068), (6, .int .i64 t2070), (33, .bool (true))] (by kernel_rfl) ?_
        exact fun a ha => ⟨true, ha, (hS.re [2, 2, 2] [] rfl (sub_self)), H⟩
      · rw [if_neg h2115] at H
        refine EL.keep [0, 5, 6, 22] [(0, .pointer (some ⟨g1286, 0, none⟩)), (5, .int .i64 t2068), (6, .int .i64 t2070), (22, .bool (decide (t2068 ≥ (l1287.length : Int))))] (by kernel_rfl) ?_
        refine EL.as' [(0, .pointer (some ⟨g1286, 0, none⟩)), (5, .int .i64 t2068), (6, .int .i64 t2070), (22, .bool (false))] (by simp only [dec_f h2115, Bool.not_true, Bool.not_false]) ?_
        refine EL.quick 4 [0, 5, 6, 22, 23, 26] [(0, .pointer (some ⟨g1286, 0, none⟩)), (5, .int .i64 t2068), (6, .int .i64 t2070), (22, .bool (false)), (23, .int .i64 t2070), (26, .pointer (some ⟨g1286, 0, none⟩))] (by kernel_rfl) ?_
        refine EL.of (EO.Y (YO.loadBox hS 0 rfl 73 0 1 (.slice A1288 l1287.length C1289) 27 (by kernel_rfl) (by kernel_rfl) (by kernel_rfl) (by kernel_rfl)) ?_)
        refine EL.quick 1 [0, 5, 6, 22, 23, 27, 28] [(0, .pointer (some ⟨g1286, 0, none⟩)), (5, .int .i64 t2068), (6, .int .i64 t2070), (22, .bool (false)), (23, .int .i64 t2070), (27, .slice A1288 l1287.length C1289), (28, .int .i64 t2068)] (by kernel_rfl) ?_
        obtain ⟨h2116, H⟩ := ite_in H
        obtain ⟨h2117, H⟩ := ite_in H
        obtain ⟨ad2118, rfl⟩ := St.deep_some hS 1 rfl h2116 h2117
        refine EL.of (EO.Y (YO.idx 73 1 ad2118 l1287.length C1289 .i64 t2068 29 (by kernel_rfl) (by kernel_rfl) (by kernel_rfl) (by kernel_rfl) h2116 h2117) ?_)
        refine EL.of (EO.openEl hS 1 ad2118 rfl t2068 h2116 h2117 (fun A2119 C2120 => Ass.box 95 g1286 [.slice (some ad2118) l1287.length C1289, .slice A1292 l1291.length C1293] :: Ass.holed 76 69 kS69 (some ad2118) C1289 l1287 t2068.toNat (A2119, (l1287.getD t2068.toNat []).length, C2120) :: Ass.own 3 (Kd.int .i64) A1292 C1293 l1291 :: os) 76 30 (by kernel_rfl) (by kernel_rfl) (by kernel_rfl) (by kernel_rfl) (fun _ _ => rfl) ?_)
        intro A2119 C2120 hS
        refine EL.quick 3 [0, 5, 6, 33] [(0, .pointer (some ⟨g1286, 0, none⟩)), (5, .int .i64 t2068), (6, .int .i64 t2070), (33, .bool (decide (t2070 ≥ ((l1287.getD t2068.toNat []).length : Int))))] (by kernel_rfl) ?_
        refine EL.done (by kernel_rfl) ?_
        refine EQ.to ?_
        have hS := St.as (os' := Ass.box 95 g1286 [.slice (some ad2118) l1287.length C1289, .slice A1292 l1291.length C1293] :: Ass.deep 76 69 kS69 (some ad2118) C1289 l1287 :: Ass.own 3 (Kd.int .i64) A1292 C1293 l1291 :: os) (St.close hS 0 1 rfl rfl rfl l1287 (set_getD _ _)) rfl
        refine EQ.keep [0, 5, 6, 33] [(0, .pointer (some ⟨g1286, 0, none⟩)), (5, .int .i64 t2068), (6, .int .i64 t2070), (33, .bool (decide (t2070 ≥ ((l1287.getD t2068.toNat []).length : Int))))] (by kernel_rfl) ?_
        exact fun a ha => ⟨decide (t2070 ≥ ((l1287.getD t2068.toNat []).length : Int)), ha, (hS.re [2, 2, 2] [] rfl (sub_self)), H⟩
  · obtain ⟨x2112, ha, hS, H⟩ := hI
    rw [hj2113] at H
    (try dsimp only at H)
    refine EW.at ?_ a ha
    clear ha a
    refine EW.condP' (o := (.tmp 33)) (x := Cd53.r.r.l.r.l) (y := Cd53.r.r.l.r.r) (x2112) (by kernel_rfl) (by kernel_rfl) (fun h2121 => ?_) (fun h2121 => ?_)
    · rw [if_pos h2121] at H
      refine EW.seq (x := Cd53.r.r.l.r.l.l) (y := Cd53.r.r.l.r.l.r) (by kernel_rfl) ?_
      refine EW.region (id := 3) (ops := Cd53.r.r.l.r.l.l.ops) (by kernel_rfl) ?_
      refine EL.quick 1 [4] [(4, .pointer none)] (by kernel_rfl) ?_
      refine EL.done (by kernel_rfl) ?_
      refine EQ.code ?_
      refine EW.ret (by kernel_rfl) ?_
      refine EQ.ret ?_
      refine EQ.leave (.pointer none) (by kernel_rfl) ⟨_, rfl, ?_⟩
      refine EL.quick 1 [2, 7] [(2, .int .i32 a1296), (7, .pointer none)] (by kernel_rfl) ?_
      refine EL.done (by kernel_rfl) ?_
      refine EQ.code ?_
      refine EW.seq (x := Cd40.r.r.l) (y := Cd40.r.r.r) (by kernel_rfl) ?_
      refine EW.seq (x := Cd40.r.r.l.l) (y := Cd40.r.r.l.r) (by kernel_rfl) ?_
      refine EW.region (id := 2) (ops := Cd40.r.r.l.l.ops) (by kernel_rfl) ?_
      refine EL.quick 2 [2, 7, 12] [(2, .int .i32 a1296), (7, .pointer none), (12, .bool (false))] (by kernel_rfl) ?_
      refine EL.done (by kernel_rfl) ?_
      refine EQ.code ?_
      refine EW.condF (o := (.tmp 12)) (x := Cd40.r.r.l.r.l) (y := Cd40.r.r.l.r.r) (by kernel_rfl) (by kernel_rfl) ?_
      refine EW.skip (by kernel_rfl) ?_
      refine EQ.code ?_
      refine EW.seq (x := Cd40.r.r.r.l) (y := Cd40.r.r.r.r) (by kernel_rfl) ?_
      refine EW.region (id := 4) (ops := Cd40.r.r.r.l.ops) (by kernel_rfl) ?_
      refine EL.quick 3 [6] [(6, .bool (false))] (by kernel_rfl) ?_
      refine EL.done (by kernel_rfl) ?_
      refine EQ.code ?_
      refine EW.ret (by kernel_rfl) ?_
      simp only [Option.some.injEq, Prod.mk.injEq] at H
      obtain ⟨rfl, rfl⟩ := H
      exact EQ.leave (.bool (false)) (by kernel_rfl) ⟨_, rfl, A1288, C1289, rfl, (hS.re [2, 2, 2] [] rfl (sub_self))⟩
    · rw [if_neg h2121] at H
      refine EW.skip (by kernel_rfl) ?_
      refine EQ.code ?_
      refine EW.seq (x := Cd53.r.r.r.l) (y := Cd53.r.r.r.r) (by kernel_rfl) ?_
      refine EW.region (id := 4) (ops := Cd53.r.r.r.l.ops) (by kernel_rfl) ?_
      refine EL.quick 3 [5, 6, 36] [(5, .int .i64 t2068), (6, .int .i64 t2070), (36, .pointer (some ⟨g1286, 0, none⟩))] (by kernel_rfl) ?_
      refine EL.of (EO.Y (YO.loadBox hS 0 rfl 73 0 1 (.slice A1288 l1287.length C1289) 37 (by kernel_rfl) (by kernel_rfl) (by kernel_rfl) (by kernel_rfl)) ?_)
      refine EL.quick 1 [6, 37, 38] [(6, .int .i64 t2070), (37, .slice A1288 l1287.length C1289), (38, .int .i64 t2068)] (by kernel_rfl) ?_
      obtain ⟨h2122, H⟩ := ite_in H
      obtain ⟨h2123, H⟩ := ite_in H
      obtain ⟨ad2124, rfl⟩ := St.deep_some hS 1 rfl h2122 h2123
      refine EL.of (EO.Y (YO.idx 73 1 ad2124 l1287.length C1289 .i64 t2068 39 (by kernel_rfl) (by kernel_rfl) (by kernel_rfl) (by kernel_rfl) h2122 h2123) ?_)
      refine EL.of (EO.openEl hS 1 ad2124 rfl t2068 h2122 h2123 (fun A2125 C2126 => Ass.box 95 g1286 [.slice (some ad2124) l1287.length C1289, .slice A1292 l1291.length C1293] :: Ass.holed 76 69 kS69 (some ad2124) C1289 l1287 t2068.toNat (A2125, (l1287.getD t2068.toNat []).length, C2126) :: Ass.own 3 (Kd.int .i64) A1292 C1293 l1291 :: os) 76 40 (by kernel_rfl) (by kernel_rfl) (by kernel_rfl) (by kernel_rfl) (fun _ _ => rfl) ?_)
      intro A2125 C2126 hS
      refine EL.quick 1 [40, 41] [(40, .slice A2125 (l1287.getD t2068.toNat []).length C2126), (41, .int .i64 t2070)] (by kernel_rfl) ?_
      obtain ⟨h2127, H⟩ := ite_in H
      obtain ⟨h2128, H⟩ := ite_in H
      obtain ⟨ad2129, rfl⟩ := St.rd_some hS (Rd.own 0 69 rfl) h2127 h2128
      refine EL.of (EO.Y (YO.idx 76 2 ad2129 (l1287.getD t2068.toNat []).length C2126 .i64 t2070 42 (by kernel_rfl) (by kernel_rfl) (by kernel_rfl) (by kernel_rfl) h2127 h2128) ?_)
      refine EL.quick 1 [4] [(4, .pointer (some ((ad2129.add (t2070.toNat * 2)).add 0)))] (by kernel_rfl) ?_
      refine EL.done (by kernel_rfl) ?_
      refine EQ.code ?_
      refine EW.ret (by kernel_rfl) ?_
      refine EQ.leave (.pointer (some ((ad2129.add (t2070.toNat * 2)).add 0))) (by kernel_rfl) ⟨_, rfl, ?_⟩
      refine EL.quick 1 [2, 7] [(2, .int .i32 a1296), (7, .pointer (some ((ad2129.add (t2070.toNat * 2)).add 0)))] (by kernel_rfl) ?_
      refine EL.done (by kernel_rfl) ?_
      refine EQ.code ?_
      refine EW.seq (x := Cd40.r.r.l) (y := Cd40.r.r.r) (by kernel_rfl) ?_
      refine EW.seq (x := Cd40.r.r.l.l) (y := Cd40.r.r.l.r) (by kernel_rfl) ?_
      refine EW.region (id := 2) (ops := Cd40.r.r.l.l.ops) (by kernel_rfl) ?_
      refine EL.quick 2 [2, 7, 12] [(2, .int .i32 a1296), (7, .pointer (some ((ad2129.add (t2070.toNat * 2)).add 0))), (12, .bool (true))] (by kernel_rfl) ?_
      refine EL.done (by kernel_rfl) ?_
      refine EQ.code ?_
      refine EW.condT (o := (.tmp 12)) (x := Cd40.r.r.l.r.l) (y := Cd40.r.r.l.r.r) (by kernel_rfl) (by kernel_rfl) ?_
      refine EW.region (id := 3) (ops := Cd40.r.r.l.r.l.ops) (by kernel_rfl) ?_
      refine EL.quick 4 [7, 14, 16] [(7, .pointer (some ((ad2129.add (t2070.toNat * 2)).add 0))), (14, .int .i32 a1296), (16, .pointer (some ((ad2129.add (t2070.toNat * 2)).add 1)))] (by kernel_rfl) ?_
      obtain ⟨l2131, hl2131, H⟩ := lt_out H
      refine EL.of (EO.storeEl hS 0 kS69 69 ad2129 C2126 (l1287.getD t2068.toNat []) rfl t2070 h2127 h2128 zS69 21 2 1 rfl (.int .i32 a1296) (⟨((l1287.getD t2068.toNat []).getD t2070.toNat zS69).f0, a1296⟩ : S69) l2131 hl2131 (Ass.own 69 kS69 (some ad2129) C2126 l2131 :: Ass.box 95 g1286 [.slice (some ad2124) l1287.length C1289, .slice A1292 l1291.length C1293] :: Ass.holed 76 69 kS69 (some ad2124) C1289 l1287 t2068.toNat ((some ad2129), (l1287.getD t2068.toNat []).length, C2126) :: Ass.own 3 (Kd.int .i64) A1292 C1293 l1291 :: os) (by kernel_rfl) (by kernel_rfl) (by kernel_rfl) (by kernel_rfl) (by kernel_rfl) (by kernel_rfl) (fun w G vs hr h => (by have e := encS69_of _ _ _ _ h; subst e; exact ⟨[.int .i64 (((l1287.getD t2068.toNat []).getD t2070.toNat zS69).f0)], [.int .i32 a1296], rfl, rfl, ⟨[.int .i32 a1296], [], rfl, rfl, rfl⟩⟩)) rfl ?_)
      intro w hS
      refine EL.done (by kernel_rfl) ?_
      refine EQ.code ?_
      refine EW.seq (x := Cd40.r.r.r.l) (y := Cd40.r.r.r.r) (by kernel_rfl) ?_
      refine EW.region (id := 4) (ops := Cd40.r.r.r.l.ops) (by kernel_rfl) ?_
      refine EL.quick 3 [6] [(6, .bool (true))] (by kernel_rfl) ?_
      refine EL.done (by kernel_rfl) ?_
      refine EQ.code ?_
      refine EW.ret (by kernel_rfl) ?_
      have hS := St.as (os' := Ass.box 95 g1286 [.slice (some ad2124) l1287.length C1289, .slice A1292 l1291.length C1293] :: Ass.deep 76 69 kS69 (some ad2124) C1289 (l1287.set t2068.toNat l2131) :: Ass.own 3 (Kd.int .i64) A1292 C1293 l1291 :: os) (St.close hS 0 1 rfl rfl (len_set rfl hl2131) (l1287.set t2068.toNat l2131) rfl) rfl
      have hS := St.as hS (os' := Ass.box 95 g1286 [.slice (some ad2124) (l1287.set t2068.toNat l2131).length C1289, .slice A1292 l1291.length C1293] :: Ass.deep 76 69 kS69 (some ad2124) C1289 (l1287.set t2068.toNat l2131) :: Ass.own 3 (Kd.int .i64) A1292 C1293 l1291 :: os) (by simp only [List.length_set])
      simp only [Option.some.injEq, Prod.mk.injEq] at H
      obtain ⟨rfl, rfl⟩ := H
      exact EQ.leave (.bool (true)) (by kernel_rfl) ⟨_, rfl, (some ad2124), C1289, rfl, (hS.re [2, 2, 2] [] rfl (sub_self))⟩

/-! ### (*confidant/arena.Arena).Get: function 38 -/
def arena_Arena_Get.f (K : Nat) (l2144 : List (List S69)) (l2148 : List Int) (a2152 : Int) : Option (Int × Int × Bool) := b1 (ident_Label.f K a2152) fun (t2626 : Int) => (b1 (ident_Number.f K a2152) fun (t2628 : Int) => (lt (fun (x2670 : Bool) => (if x2670 = true then (some (0, 0, false)) else (if 0 ≤ t2626 then (if t2626 < (l2144.length : Int) then (if 0 ≤ t2628 then (if t2628 < ((l2144.getD t2626.toNat []).length : Int) then (some (((l2144.getD t2626.toNat []).getD t2628.toNat zS69).f0, ((l2144.getD t2626.toNat []).getD t2628.toNat zS69).f1, true)) else none) else none) else none) else none))) fun j2671 => (if t2626 < 0 then (j2671 true) else (if t2626 ≥ (l2144.length : Int) then (j2671 true) else (if 0 ≤ t2626 then (if t2626 < (l2144.length : Int) then (j2671 (decide (t2628 ≥ ((l2144.getD t2626.toNat []).length : Int)))) else none) else none)))))
set_option maxRecDepth 100000 in
theorem arena_Arena_Get.calls {K : Nat} {l2144 : List (List S69)} {l2148 : List Int} {a2152 : Int} {g2143 : Nat} {A2145 : Option Addr} {C2146 : Nat} {A2149 : Option Addr} {C2150 : Nat} {x2419 : Int} {x2420 : Int} {x2421 : Bool} {B w : World} {os : List Ass} {rs : List Ro} (H : arena_Arena_Get.f K l2144 l2148 a2152 = some (x2419, x2420, x2421)) (hS : St B w (Ass.box 95 g2143 [.slice A2145 l2144.length C2146, .slice A2149 l2148.length C2150] :: Ass.deep 76 69 kS69 A2145 C2146 l2144 :: Ass.own 3 (Kd.int .i64) A2149 C2150 l2148 :: os) (rs)) :
    Calls Try.prog 38 [.pointer (some ⟨g2143, 0, none⟩), .int .i32 a2152].toArray w (fun en w' => ∃ v, en = .returned v ∧ v = .tuple #[.agg #[.int .i64 x2419, .int .i32 x2420], .bool (x2421)] ∧ St B w' (Ass.box 95 g2143 [.slice A2145 l2144.length C2146, .slice A2149 l2148.length C2150] :: Ass.deep 76 69 kS69 A2145 C2146 l2144 :: Ass.own 3 (Kd.int .i64) A2149 C2150 l2148 :: os) (rs)) := by
  unfold arena_Arena_Get.f at H
  refine calls_of_EW (args := [.pointer (some ⟨g2143, 0, none⟩), .int .i32 a2152]) (c := Cd38) 16 Try.func38 (by kernel_rfl) (by kernel_rfl) (by kernel_rfl) ?_
  refine EW.seq (x := Cd38.l) (y := Cd38.r) (by kernel_rfl) ?_
  refine EW.region (id := 0) (ops := Cd38.l.ops) (by kernel_rfl) ?_
  refine EL.of (EO.alloc hS 69 (.agg #[.int .i64 0, .int .i32 0]) [.int .i64 0, .int .i32 0] 4 (by kernel_rfl) (by kernel_rfl) (by kernel_rfl) (by kernel_rfl) (by first | rfl | kernel_rfl) ?_)
  intro g2423 w hS
  refine EL.quick 1 [0, 1, 4] [(0, .pointer (some ⟨g2143, 0, none⟩)), (1, .int .i32 a2152), (4, .pointer (some ⟨g2423, 0, none⟩))] (by kernel_rfl) ?_
  refine EL.done (by kernel_rfl) ?_
  refine EQ.code ?_
  refine EW.seq (x := Cd38.r.l) (y := Cd38.r.r) (by kernel_rfl) ?_
  refine EW.region (id := 1) (ops := Cd38.r.l.ops) (by kernel_rfl) ?_
  refine EL.quick 2 [4, 7, 8] [(4, .pointer (some ⟨g2423, 0, none⟩)), (7, .pointer (some ⟨g2143, 0, none⟩)), (8, .int .i32 a2152)] (by kernel_rfl) ?_
  refine EL.inline 53 [.pointer (some ⟨g2143, 0, none⟩), .int .i32 a2152] 9 (by kernel_rfl) (by kernel_rfl) (by kernel_rfl) ?_
  refine calls_of_EW (args := [.pointer (some ⟨g2143, 0, none⟩), .int .i32 a2152]) (c := Cd53) 43 Try.func53 (by kernel_rfl) (by kernel_rfl) (by kernel_rfl) ?_
  refine EW.seq (x := Cd53.l) (y := Cd53.r) (by kernel_rfl) ?_
  refine EW.region (id := 0) (ops := Cd53.l.ops) (by kernel_rfl) ?_
  refine EL.quick 1 [0, 1] [(0, .pointer (some ⟨g2143, 0, none⟩)), (1, .int .i32 a2152)] (by kernel_rfl) ?_
  refine EL.done (by kernel_rfl) ?_
  refine EQ.code ?_
  refine EW.seq (x := Cd53.r.l) (y := Cd53.r.r) (by kernel_rfl) ?_
  refine EW.region (id := 1) (ops := Cd53.r.l.ops) (by kernel_rfl) ?_
  refine EL.quick 1 [0, 1, 7] [(0, .pointer (some ⟨g2143, 0, none⟩)), (1, .int .i32 a2152), (7, .int .i32 a2152)] (by kernel_rfl) ?_
  obtain ⟨t2626, hc2627, H⟩ := b1_out H
  refine EL.of (EO.callD 59 [.int .i32 a2152] _ 8 (by kernel_rfl) (by kernel_rfl) (by kernel_rfl) (ident_Label.calls hc2627 hS) ?_)
  rintro v w ⟨rfl, hS⟩
  refine EL.quick 1 [0, 8, 9] [(0, .pointer (some ⟨g2143, 0, none⟩)), (8, .int .i64 t2626), (9, .int .i32 a2152)] (by kernel_rfl) ?_
  obtain ⟨t2628, hc2629, H⟩ := b1_out H
  refine EL.of (EO.callD 60 [.int .i32 a2152] _ 10 (by kernel_rfl) (by kernel_rfl) (by kernel_rfl) (ident_Number.calls hc2629 hS) ?_)
  rintro v w ⟨rfl, hS⟩
  refine EL.quick 2 [0, 5, 6] [(0, .pointer (some ⟨g2143, 0, none⟩)), (5, .int .i64 t2626), (6, .int .i64 t2628)] (by kernel_rfl) ?_
  refine EL.done (by kernel_rfl) ?_
  refine EQ.code ?_
  refine EW.seq (x := Cd53.r.r.l) (y := Cd53.r.r.r) (by kernel_rfl) ?_
  obtain ⟨j2671, hj2671, H⟩ := lt_out H
  refine EW.cut (x := Cd53.r.r.l.l) (y := Cd53.r.r.l.r) (fun a w => ∃ x2670 : Bool, Sat 43 [(0, .pointer (some ⟨g2143, 0, none⟩)), (5, .int .i64 t2626), (6, .int .i64 t2628), (33, .bool (x2670))] a ∧ St B w (Ass.box 69 g2423 [.int .i64 0, .int .i32 0] :: Ass.box 95 g2143 [.slice A2145 l2144.length C2146, .slice A2149 l2148.length C2150] :: Ass.deep 76 69 kS69 A2145 C2146 l2144 :: Ass.own 3 (Kd.int .i64) A2149 C2150 l2148 :: os) (rs) ∧ j2671 x2670 = some (x2419, x2420, x2421)) (by kernel_rfl) ?_ (fun a w hI => ?_)
  · refine EW.region (id := 2) (ops := Cd53.r.r.l.l.ops) (by kernel_rfl) ?_
    refine EL.quick 3 [0, 5, 6, 13] [(0, .pointer (some ⟨g2143, 0, none⟩)), (5, .int .i64 t2626), (6, .int .i64 t2628), (13, .bool (decide (t2626 < 0)))] (by kernel_rfl) ?_
    by_cases h2672 : t2626 < 0
    · rw [if_pos h2672] at H
      refine EL.keep [0, 5, 6, 13] [(0, .pointer (some ⟨g2143, 0, none⟩)), (5, .int .i64 t2626), (6, .int .i64 t2628), (13, .bool (decide (t2626 < 0)))] (by kernel_rfl) ?_
      refine EL.as' [(0, .pointer (some ⟨g2143, 0, none⟩)), (5, .int .i64 t2626), (6, .int .i64 t2628), (13, .bool (true))] (by simp only [dec_t h2672, Bool.not_true, Bool.not_false]) ?_
      refine EL.quick 20 [0, 5, 6, 33] [(0, .pointer (some ⟨g2143, 0, none⟩)), (5, .int .i64 t2626), (6, .int .i64 t2628), (33, .bool (true))] (by kernel_rfl) ?_
      refine EL.done (by kernel_rfl) ?_
      refine EQ.to ?_
      refine EQ.keep [0, 5, 6, 33] [(0, .pointer (some ⟨g2143, 0, none⟩)), (5, .int .i64 t2626), (6, .int .i64 t2628), (33, .bool (true))] (by kernel_rfl) ?_
      exact fun a ha => ⟨true, ha, (hS.re [3, 3, 3, 3] [] rfl (sub_self)), H⟩
    · rw [if_neg h2672] at H
      refine EL.keep [0, 5, 6, 13] [(0, .pointer (some ⟨g2143, 0, none⟩)), (5, .int .i64 t2626), (6, .int .i64 t2628), (13, .bool (decide (t2626 < 0)))] (by kernel_rfl) ?_
      refine EL.as' [(0, .pointer (some ⟨g2143, 0, none⟩)), (5, .int .i64 t2626), (6, .int .i64 t2628), (13, .bool (false))] (by simp only [dec_f h2672, Bool.not_true, Bool.not_false]) ?_
      refine EL.quick 4 [0, 5, 6, 13, 14, 17] [(0, .pointer (some ⟨g2143, 0, none⟩)), (5, .int .i64 t2626), (6, .int .i64 t2628), (13, .bool (false)), (14, .int .i64 t2626), (17, .pointer (some ⟨g2143, 0, none⟩))] (by kernel_rfl) ?_
      refine EL.of (EO.Y (YO.loadBox hS 1 rfl 73 0 1 (.slice A2145 l2144.length C2146) 18 (by kernel_rfl) (by kernel_rfl) (by kernel_rfl) (by kernel_rfl)) ?_)
      refine EL.quick 4 [0, 5, 6, 22] [(0, .pointer (some ⟨g2143, 0, none⟩)), (5, .int .i64 t2626), (6, .int .i64 t2628), (22, .bool (decide (t2626 ≥ (l2144.length : Int))))] (by kernel_rfl) ?_
      by_cases h2673 : t2626 ≥ (l2144.length : Int)
      · rw [if_pos h2673] at H
        refine EL.keep [0, 5, 6, 22] [(0, .pointer (some ⟨g2143, 0, none⟩)), (5, .int .i64 t2626), (6, .int .i64 t2628), (22, .bool (decide (t2626 ≥ (l2144.length : Int))))] (by kernel_rfl) ?_
        refine EL.as' [(0, .pointer (some ⟨g2143, 0, none⟩)), (5, .int .i64 t2626), (6, .int .i64 t2628), (22, .bool (true))] (by simp only [dec_t h2673, Bool.not_true, Bool.not_false]) ?_
        refine EL.quick 11 [0, 5, 6, 33] [(0, .pointer (some ⟨g2143, 0, none⟩)), (5, .int .i64 t2626), (6, .int .i64 t2628), (33, .bool (true))] (by kernel_rfl) ?_
        refine EL.done (by kernel_rfl) ?_
        refine EQ.to ?_
        refine EQ.keep [0, 5, 6, 33] [(0, .pointer (some ⟨g2143, 0, none⟩)), (5, .int .i64 t2626), (6, .int .i64 t2628), (33, .bool (true))] (by kernel_rfl) ?_
        exact fun a ha => ⟨true, ha, (hS.re [3, 3, 3, 3] [] rfl (sub_self)), H⟩
      · rw [if_neg h2673] at H
        refine EL.keep [0, 5, 6, 22] [(0, .pointer (some ⟨g2143, 0, none⟩)), (5, .int .i64 t2626), (6, .int .i64 t2628), (22, .bool (decide (t2626 ≥ (l2144.length : Int))))] (by kernel_rfl) ?_
        refine EL.as' [(0, .pointer (some ⟨g2143, 0, none⟩)), (5, .int .i64 t2626), (6, .int .i64 t2628), (22, .bool (false))] (by simp only [dec_f h2673, Bool.not_true, Bool.not_false]) ?_
        refine EL.quick 4 [0, 5, 6, 22, 23, 26] [(0, .pointer (some ⟨g2143, 0, none⟩)), (5, .int .i64 t2626), (6, .int .i64 t2628), (22, .bool (false)), (23, .int .i64 t2628), (26, .pointer (some ⟨g2143, 0, none⟩))] (by kernel_rfl) ?_
        refine EL.of (EO.Y (YO.loadBox hS 1 rfl 73 0 1 (.slice A2145 l2144.length C2146) 27 (by kernel_rfl) (by kernel_rfl) (by kernel_rfl) (by kernel_rfl)) ?_)
        refine EL.quick 1 [0, 5, 6, 22, 23, 27, 28] [(0, .pointer (some ⟨g2143, 0, none⟩)), (5, .int .i64 t2626), (6, .int .i64 t2628), (22, .bool (false)), (23, .int .i64 t2628), (27, .slice A2145 l2144.length C2146), (28, .int .i64 t2626)] (by kernel_rfl) ?_
        obtain ⟨h2674, H⟩ := ite_in H
        obtain ⟨h2675, H⟩ := ite_in H
        obtain ⟨ad2676, rfl⟩ := St.deep_some hS 2 rfl h2674 h2675
        refine EL.of (EO.Y (YO.idx 73 1 ad2676 l2144.length C2146 .i64 t2626 29 (by kernel_rfl) (by kernel_rfl) (by kernel_rfl) (by kernel_rfl) h2674 h2675) ?_)
        refine EL.of (EO.openEl hS 2 ad2676 rfl t2626 h2674 h2675 (fun A2677 C2678 => Ass.box 69 g2423 [.int .i64 0, .int .i32 0] :: Ass.box 95 g2143 [.slice (some ad2676) l2144.length C2146, .slice A2149 l2148.length C2150] :: Ass.holed 76 69 kS69 (some ad2676) C2146 l2144 t2626.toNat (A2677, (l2144.getD t2626.toNat []).length, C2678) :: Ass.own 3 (Kd.int .i64) A2149 C2150 l2148 :: os) 76 30 (by kernel_rfl) (by kernel_rfl) (by kernel_rfl) (by kernel_rfl) (fun _ _ => rfl) ?_)
        intro A2677 C2678 hS
        refine EL.quick 3 [0, 5, 6, 33] [(0, .pointer (some ⟨g2143, 0, none⟩)), (5, .int .i64 t2626), (6, .int .i64 t2628), (33, .bool (decide (t2628 ≥ ((l2144.getD t2626.toNat []).length : Int))))] (by kernel_rfl) ?_
        refine EL.done (by kernel_rfl) ?_
        refine EQ.to ?_
        have hS := St.as (os' := Ass.box 69 g2423 [.int .i64 0, .int .i32 0] :: Ass.box 95 g2143 [.slice (some ad2676) l2144.length C2146, .slice A2149 l2148.length C2150] :: Ass.deep 76 69 kS69 (some ad2676) C2146 l2144 :: Ass.own 3 (Kd.int .i64) A2149 C2150 l2148 :: os) (St.close hS 0 2 rfl rfl rfl l2144 (set_getD _ _)) rfl
        refine EQ.keep [0, 5, 6, 33] [(0, .pointer (some ⟨g2143, 0, none⟩)), (5, .int .i64 t2626), (6, .int .i64 t2628), (33, .bool (decide (t2628 ≥ ((l2144.getD t2626.toNat []).length : Int))))] (by kernel_rfl) ?_
        exact fun a ha => ⟨decide (t2628 ≥ ((l2144.getD t2626.toNat []).length : Int)), ha, (hS.re [3, 3, 3, 3] [] rfl (sub_self)), H⟩
  · obtain ⟨x2670, ha, hS, H⟩ := hI
    rw [hj2671] at H
    (try dsimp only at H)
    refine EW.at ?_ a ha
    clear ha a
    refine EW.condP' (o := (.tmp 33)) (x := Cd53.r.r.l.r.l) (y := Cd53.r.r.l.r.r) (x2670) (by kernel_rfl) (by kernel_rfl) (fun h2679 => ?_) (fun h2679 => ?_)
    · rw [if_pos h2679] at H
      refine EW.seq (x := Cd53.r.r.l.r.l.l) (y := Cd53.r.r.l.r.l.r) (by kernel_rfl) ?_
      refine EW.region (id := 3) (ops := Cd53.r.r.l.r.l.l.ops) (by kernel_rfl) ?_
      refine EL.quick 1 [4] [(4, .pointer none)] (by kernel_rfl) ?_
      refine EL.done (by kernel_rfl) ?_
      refine EQ.code ?_
      refine EW.ret (by kernel_rfl) ?_
      refine EQ.ret ?_
      refine EQ.leave (.pointer none) (by kernel_rfl) ⟨_, rfl, ?_⟩
      refine EL.quick 1 [4, 6] [(4, .pointer (some ⟨g2423, 0, none⟩)), (6, .pointer none)] (by kernel_rfl) ?_
      refine EL.done (by kernel_rfl) ?_
      refine EQ.code ?_
      refine EW.seq (x := Cd38.r.r.l) (y := Cd38.r.r.r) (by kernel_rfl) ?_
      refine EW.seq (x := Cd38.r.r.l.l) (y := Cd38.r.r.l.r) (by kernel_rfl) ?_
      refine EW.region (id := 2) (ops := Cd38.r.r.l.l.ops) (by kernel_rfl) ?_
      refine EL.quick 2 [4, 6, 11] [(4, .pointer (some ⟨g2423, 0, none⟩)), (6, .pointer none), (11, .bool (true))] (by kernel_rfl) ?_
      refine EL.done (by kernel_rfl) ?_
      refine EQ.code ?_
      refine EW.condT (o := (.tmp 11)) (x := Cd38.r.r.l.r.l) (y := Cd38.r.r.l.r.r) (by kernel_rfl) (by kernel_rfl) ?_
      refine EW.seq (x := Cd38.r.r.l.r.l.l) (y := Cd38.r.r.l.r.l.r) (by kernel_rfl) ?_
      refine EW.region (id := 3) (ops := Cd38.r.r.l.r.l.l.ops) (by kernel_rfl) ?_
      refine EL.quick 1 [4, 12] [(4, .pointer (some ⟨g2423, 0, none⟩)), (12, .agg #[.int .i64 0, .int .i32 0])] (by kernel_rfl) ?_
      refine EL.of (EO.storeBox (os' := Ass.box 69 g2423 [.int .i64 0, .int .i32 0] :: Ass.box 95 g2143 [.slice A2145 l2144.length C2146, .slice A2149 l2148.length C2150] :: Ass.deep 76 69 kS69 A2145 C2146 l2144 :: Ass.own 3 (Kd.int .i64) A2149 C2150 l2148 :: os) hS 0 rfl 69 0 (.agg #[.int .i64 0, .int .i32 0]) [.int .i64 0, .int .i32 0] (by kernel_rfl) (by kernel_rfl) (by kernel_rfl) (by kernel_rfl) (by kernel_rfl) (by kernel_rfl) rfl rfl ?_)
      intro w hS
      refine EL.quick 1 [4, 5] [(4, .pointer (some ⟨g2423, 0, none⟩)), (5, .bool (false))] (by kernel_rfl) ?_
      refine EL.done (by kernel_rfl) ?_
      refine EQ.code ?_
      refine EW.ret (by kernel_rfl) ?_
      refine EQ.ret ?_
      simp only [Option.some.injEq, Prod.mk.injEq] at H
      obtain ⟨rfl, rfl, rfl⟩ := H
      exact EQ.leave2 hS (.cell 4 69) (.tmp 5) (.agg #[.int .i64 0, .int .i32 0]) (.bool (false)) (by kernel_rfl) ⟨0, 69, g2423, [.int .i64 0, .int .i32 0], 0, 2, rfl, (by kernel_rfl), (by kernel_rfl)⟩ (oneTmp (by kernel_rfl)) ⟨_, rfl, rfl, (hS.re [3, 3, 3] [3] rfl (sub_self))⟩
    · rw [if_neg h2679] at H
      refine EW.skip (by kernel_rfl) ?_
      refine EQ.code ?_
      refine EW.seq (x := Cd53.r.r.r.l) (y := Cd53.r.r.r.r) (by kernel_rfl) ?_
      refine EW.region (id := 4) (ops := Cd53.r.r.r.l.ops) (by kernel_rfl) ?_
      refine EL.quick 3 [5, 6, 36] [(5, .int .i64 t2626), (6, .int .i64 t2628), (36, .pointer (some ⟨g2143, 0, none⟩))] (by kernel_rfl) ?_
      refine EL.of (EO.Y (YO.loadBox hS 1 rfl 73 0 1 (.slice A2145 l2144.length C2146) 37 (by kernel_rfl) (by kernel_rfl) (by kernel_rfl) (by kernel_rfl)) ?_)
      refine EL.quick 1 [6, 37, 38] [(6, .int .i64 t2628), (37, .slice A2145 l2144.length C2146), (38, .int .i64 t2626)] (by kernel_rfl) ?_
      obtain ⟨h2680, H⟩ := ite_in H
      obtain ⟨h2681, H⟩ := ite_in H
      obtain ⟨ad2682, rfl⟩ := St.deep_some hS 2 rfl h2680 h2681
      refine EL.of (EO.Y (YO.idx 73 1 ad2682 l2144.length C2146 .i64 t2626 39 (by kernel_rfl) (by kernel_rfl) (by kernel_rfl) (by kernel_rfl) h2680 h2681) ?_)
      refine EL.of (EO.openEl hS 2 ad2682 rfl t2626 h2680 h2681 (fun A2683 C2684 => Ass.box 69 g2423 [.int .i64 0, .int .i32 0] :: Ass.box 95 g2143 [.slice (some ad2682) l2144.length C2146, .slice A2149 l2148.length C2150] :: Ass.holed 76 69 kS69 (some ad2682) C2146 l2144 t2626.toNat (A2683, (l2144.getD t2626.toNat []).length, C2684) :: Ass.own 3 (Kd.int .i64) A2149 C2150 l2148 :: os) 76 40 (by kernel_rfl) (by kernel_rfl) (by kernel_rfl) (by kernel_rfl) (fun _ _ => rfl) ?_)
      intro A2683 C2684 hS
      refine EL.quick 1 [40, 41] [(40, .slice A2683 (l2144.getD t2626.toNat []).length C2684), (41, .int .i64 t2628)] (by kernel_rfl) ?_
      obtain ⟨h2685, H⟩ := ite_in H
      obtain ⟨h2686, H⟩ := ite_in H
      obtain ⟨ad2687, rfl⟩ := St.rd_some hS (Rd.own 0 69 rfl) h2685 h2686
      refine EL.of (EO.Y (YO.idx 76 2 ad2687 (l2144.getD t2626.toNat []).length C2684 .i64 t2628 42 (by kernel_rfl) (by kernel_rfl) (by kernel_rfl) (by kernel_rfl) h2685 h2686) ?_)
      refine EL.quick 1 [4] [(4, .pointer (some ((ad2687.add (t2628.toNat * 2)).add 0)))] (by kernel_rfl) ?_
      refine EL.done (by kernel_rfl) ?_
      refine EQ.code ?_
      refine EW.ret (by kernel_rfl) ?_
      refine EQ.leave (.pointer (some ((ad2687.add (t2628.toNat * 2)).add 0))) (by kernel_rfl) ⟨_, rfl, ?_⟩
      refine EL.quick 1 [4, 6] [(4, .pointer (some ⟨g2423, 0, none⟩)), (6, .pointer (some ((ad2687.add (t2628.toNat * 2)).add 0)))] (by kernel_rfl) ?_
      refine EL.done (by kernel_rfl) ?_
      refine EQ.code ?_
      refine EW.seq (x := Cd38.r.r.l) (y := Cd38.r.r.r) (by kernel_rfl) ?_
      refine EW.seq (x := Cd38.r.r.l.l) (y := Cd38.r.r.l.r) (by kernel_rfl) ?_
      refine EW.region (id := 2) (ops := Cd38.r.r.l.l.ops) (by kernel_rfl) ?_
      refine EL.quick 2 [4, 6, 11] [(4, .pointer (some ⟨g2423, 0, none⟩)), (6, .pointer (some ((ad2687.add (t2628.toNat * 2)).add 0))), (11, .bool (false))] (by kernel_rfl) ?_
      refine EL.done (by kernel_rfl) ?_
      refine EQ.code ?_
      refine EW.condF (o := (.tmp 11)) (x := Cd38.r.r.l.r.l) (y := Cd38.r.r.l.r.r) (by kernel_rfl) (by kernel_rfl) ?_
      refine EW.skip (by kernel_rfl) ?_
      refine EQ.code ?_
      refine EW.seq (x := Cd38.r.r.r.l) (y := Cd38.r.r.r.r) (by kernel_rfl) ?_
      refine EW.region (id := 4) (ops := Cd38.r.r.r.l.ops) (by kernel_rfl) ?_
      refine EL.quick 2 [4, 14] [(4, .pointer (some ⟨g2423, 0, none⟩)), (14, .pointer (some ((ad2687.add (t2628.toNat * 2)).add 0)))] (by kernel_rfl) ?_
      refine EL.of (EO.Y (YO.loadEl hS kS69 ad2687 C2684 (l2144.getD t2626.toNat []) (Rd.own 0 69 rfl) zS69 encS69 encS69_of t2628 h2685 h2686 69 2 0 2 rfl (.agg #[.int .i64 (((l2144.getD t2626.toNat []).getD t2628.toNat zS69).f0), .int .i32 (((l2144.getD t2626.toNat []).getD t2628.toNat zS69).f1)]) 15 (by kernel_rfl) (by kernel_rfl) (by kernel_rfl) (by kernel_rfl)) ?_)
      refine EL.of (EO.storeBox (os' := Ass.own 69 kS69 (some ad2687) C2684 (l2144.getD t2626.toNat []) :: Ass.box 69 g2423 [.int .i64 (((l2144.getD t2626.toNat []).getD t2628.toNat zS69).f0), .int .i32 (((l2144.getD t2626.toNat []).getD t2628.toNat zS69).f1)] :: Ass.box 95 g2143 [.slice (some ad2682) l2144.length C2146, .slice A2149 l2148.length C2150] :: Ass.holed 76 69 kS69 (some ad2682) C2146 l2144 t2626.toNat ((some ad2687), (l2144.getD t2626.toNat []).length, C2684) :: Ass.own 3 (Kd.int .i64) A2149 C2150 l2148 :: os) hS 1 rfl 69 0 (.agg #[.int .i64 (((l2144.getD t2626.toNat []).getD t2628.toNat zS69).f0), .int .i32 (((l2144.getD t2626.toNat []).getD t2628.toNat zS69).f1)]) [.int .i64 (((l2144.getD t2626.toNat []).getD t2628.toNat zS69).f0), .int .i32 (((l2144.getD t2626.toNat []).getD t2628.toNat zS69).f1)] (by kernel_rfl) (by kernel_rfl) (by kernel_rfl) (by kernel_rfl) (by kernel_rfl) (by kernel_rfl) rfl rfl ?_)
      intro w hS
      refine EL.quick 1 [4, 5] [(4, .pointer (some ⟨g2423, 0, none⟩)), (5, .bool (true))] (by kernel_rfl) ?_
      refine EL.done (by kernel_rfl) ?_
      refine EQ.code ?_
      refine EW.ret (by kernel_rfl) ?_
      have hS := St.as (os' := Ass.box 69 g2423 [.int .i64 (((l2144.getD t2626.toNat []).getD t2628.toNat zS69).f0), .int .i32 (((l2144.getD t2626.toNat []).getD t2628.toNat zS69).f1)] :: Ass.box 95 g2143 [.slice (some ad2682) l2144.length C2146, .slice A2149 l2148.length C2150] :: Ass.deep 76 69 kS69 (some ad2682) C2146 l2144 :: Ass.own 3 (Kd.int .i64) A2149 C2150 l2148 :: os) (St.close hS 0 2 rfl rfl rfl l2144 (set_getD _ _)) rfl
      simp only [Option.some.injEq, Prod.mk.injEq] at H
      obtain ⟨rfl, rfl, rfl⟩ := H
      exact EQ.leave2 hS (.cell 4 69) (.tmp 5) (.agg #[.int .i64 (((l2144.getD t2626.toNat []).getD t2628.toNat zS69).f0), .int .i32 (((l2144.getD t2626.toNat []).getD t2628.toNat zS69).f1)]) (.bool (true)) (by kernel_rfl) ⟨0, 69, g2423, [.int .i64 (((l2144.getD t2626.toNat []).getD t2628.toNat zS69).f0), .int .i32 (((l2144.getD t2626.toNat []).getD t2628.toNat zS69).f1)], 0, 2, rfl, (by kernel_rfl), (by kernel_rfl)⟩ (oneTmp (by kernel_rfl)) ⟨_, rfl, rfl, (hS.re [3, 3, 3] [3] rfl (sub_self))⟩

/-! ### (*confidant/arena.Arena).Count: function 42 -/
def arena_Arena_Count.f (K : Nat) (l2708 : List (List S69)) (l2712 : List Int) (a2716 : Int) : Option Int := lt (fun (x2747 : Bool) => (if x2747 = true then (some 0) else (if 0 ≤ a2716 then (if a2716 < (l2708.length : Int) then (some ((l2708.getD a2716.toNat []).length : Int)) else none) else none))) fun j2748 => (if a2716 < 0 then (j2748 true) else (j2748 (decide (a2716 ≥ (l2708.length : Int)))))
set_option maxRecDepth 100000 in
theorem arena_Arena_Count.calls {K : Nat} {l2708 : List (List S69)} {l2712 : List Int} {a2716 : Int} {g2707 : Nat} {A2709 : Option Addr} {C2710 : Nat} {A2713 : Option Addr} {C2714 : Nat} {x2736 : Int} {B w : World} {os : List Ass} {rs : List Ro} (H : arena_Arena_Count.f K l2708 l2712 a2716 = some x2736) (hS : St B w (Ass.box 95 g2707 [.slice A2709 l2708.length C2710, .slice A2713 l2712.length C2714] :: Ass.deep 76 69 kS69 A2709 C2710 l2708 :: Ass.own 3 (Kd.int .i64) A2713 C2714 l2712 :: os) (rs)) :
    Calls Try.prog 42 [.pointer (some ⟨g2707, 0, none⟩), .int .i64 a2716].toArray w (fun en w' => ∃ v, en = .returned v ∧ v = .int .i64 x2736 ∧ St B w' (Ass.box 95 g2707 [.slice A2709 l2708.length C2710, .slice A2713 l2712.length C2714] :: Ass.deep 76 69 kS69 A2709 C2710 l2708 :: Ass.own 3 (Kd.int .i64) A2713 C2714 l2712 :: os) (rs)) := by
  unfold arena_Arena_Count.f at H
  refine calls_of_EW (args := [.pointer (some ⟨g2707, 0, none⟩), .int .i64 a2716]) (c := Cd42) 24 Try.func42 (by kernel_rfl) (by kernel_rfl) (by kernel_rfl) ?_
  refine EW.seq (x := Cd42.l) (y := Cd42.r) (by kernel_rfl) ?_
  refine EW.region (id := 0) (ops := Cd42.l.ops) (by kernel_rfl) ?_
  refine EL.quick 1 [0, 1] [(0, .pointer (some ⟨g2707, 0, none⟩)), (1, .int .i64 a2716)] (by kernel_rfl) ?_
  refine EL.done (by kernel_rfl) ?_
  refine EQ.code ?_
  refine EW.seq (x := Cd42.r.l) (y := Cd42.r.r) (by kernel_rfl) ?_
  obtain ⟨j2748, hj2748, H⟩ := lt_out H
  refine EW.cut (x := Cd42.r.l.l) (y := Cd42.r.l.r) (fun a w => ∃ x2747 : Bool, Sat 24 [(0, .pointer (some ⟨g2707, 0, none⟩)), (1, .int .i64 a2716), (15, .bool (x2747))] a ∧ St B w (Ass.box 95 g2707 [.slice A2709 l2708.length C2710, .slice A2713 l2712.length C2714] :: Ass.deep 76 69 kS69 A2709 C2710 l2708 :: Ass.own 3 (Kd.int .i64) A2713 C2714 l2712 :: os) (rs) ∧ j2748 x2747 = some x2736) (by kernel_rfl) ?_ (fun a w hI => ?_)
  · refine EW.region (id := 1) (ops := Cd42.r.l.l.ops) (by kernel_rfl) ?_
    refine EL.quick 3 [0, 1, 7] [(0, .pointer (some ⟨g2707, 0, none⟩)), (1, .int .i64 a2716), (7, .bool (decide (a2716 < 0)))] (by kernel_rfl) ?_
    by_cases h2749 : a2716 < 0
    · rw [if_pos h2749] at H
      refine EL.keep [0, 1, 7] [(0, .pointer (some ⟨g2707, 0, none⟩)), (1, .int .i64 a2716), (7, .bool (decide (a2716 < 0)))] (by kernel_rfl) ?_
      refine EL.as' [(0, .pointer (some ⟨g2707, 0, none⟩)), (1, .int .i64 a2716), (7, .bool (true))] (by simp only [dec_t h2749, Bool.not_true, Bool.not_false]) ?_
      refine EL.quick 8 [0, 1, 15] [(0, .pointer (some ⟨g2707, 0, none⟩)), (1, .int .i64 a2716), (15, .bool (true))] (by kernel_rfl) ?_
      refine EL.done (by kernel_rfl) ?_
      refine EQ.to ?_
      refine EQ.keep [0, 1, 15] [(0, .pointer (some ⟨g2707, 0, none⟩)), (1, .int .i64 a2716), (15, .bool (true))] (by kernel_rfl) ?_
      exact fun a ha => ⟨true, ha, (hS.re [2, 2, 2] [] rfl (sub_self)), H⟩
    · rw [if_neg h2749] at H
      refine EL.keep [0, 1, 7] [(0, .pointer (some ⟨g2707, 0, none⟩)), (1, .int .i64 a2716), (7, .bool (decide (a2716 < 0)))] (by kernel_rfl) ?_
      refine EL.as' [(0, .pointer (some ⟨g2707, 0, none⟩)), (1, .int .i64 a2716), (7, .bool (false))] (by simp only [dec_f h2749, Bool.not_true, Bool.not_false]) ?_
      refine EL.quick 4 [0, 1, 7, 8, 11] [(0, .pointer (some ⟨g2707, 0, none⟩)), (1, .int .i64 a2716), (7, .bool (false)), (8, .int .i64 a2716), (11, .pointer (some ⟨g2707, 0, none⟩))] (by kernel_rfl) ?_
      refine EL.of (EO.Y (YO.loadBox hS 0 rfl 73 0 1 (.slice A2709 l2708.length C2710) 12 (by kernel_rfl) (by kernel_rfl) (by kernel_rfl) (by kernel_rfl)) ?_)
      refine EL.quick 3 [0, 1, 15] [(0, .pointer (some ⟨g2707, 0, none⟩)), (1, .int .i64 a2716), (15, .bool (decide (a2716 ≥ (l2708.length : Int))))] (by kernel_rfl) ?_
      refine EL.done (by kernel_rfl) ?_
      refine EQ.to ?_
      refine EQ.keep [0, 1, 15] [(0, .pointer (some ⟨g2707, 0, none⟩)), (1, .int .i64 a2716), (15, .bool (decide (a2716 ≥ (l2708.length : Int))))] (by kernel_rfl) ?_
      exact fun a ha => ⟨decide (a2716 ≥ (l2708.length : Int)), ha, (hS.re [2, 2, 2] [] rfl (sub_self)), H⟩
  · obtain ⟨x2747, ha, hS, H⟩ := hI
    rw [hj2748] at H
    (try dsimp only at H)
    refine EW.at ?_ a ha
    clear ha a
    refine EW.condP' (o := (.tmp 15)) (x := Cd42.r.l.r.l) (y := Cd42.r.l.r.r) (x2747) (by kernel_rfl) (by kernel_rfl) (fun h2750 => ?_) (fun h2750 => ?_)
    · rw [if_pos h2750] at H
      refine EW.seq (x := Cd42.r.l.r.l.l) (y := Cd42.r.l.r.l.r) (by kernel_rfl) ?_
      refine EW.region (id := 2) (ops := Cd42.r.l.r.l.l.ops) (by kernel_rfl) ?_
      refine EL.quick 1 [4] [(4, .int .i64 0)] (by kernel_rfl) ?_
      refine EL.done (by kernel_rfl) ?_
      refine EQ.code ?_
      refine EW.ret (by kernel_rfl) ?_
      refine EQ.ret ?_
      obtain rfl := Option.some.inj H
      exact EQ.leave (.int .i64 0) (by kernel_rfl) ⟨_, rfl, rfl, (hS.re [2, 2, 2] [] rfl (sub_self))⟩
    · rw [if_neg h2750] at H
      refine EW.skip (by kernel_rfl) ?_
      refine EQ.code ?_
      refine EW.seq (x := Cd42.r.r.l) (y := Cd42.r.r.r) (by kernel_rfl) ?_
      refine EW.region (id := 3) (ops := Cd42.r.r.l.ops) (by kernel_rfl) ?_
      refine EL.quick 3 [1, 18] [(1, .int .i64 a2716), (18, .pointer (some ⟨g2707, 0, none⟩))] (by kernel_rfl) ?_
      refine EL.of (EO.Y (YO.loadBox hS 0 rfl 73 0 1 (.slice A2709 l2708.length C2710) 19 (by kernel_rfl) (by kernel_rfl) (by kernel_rfl) (by kernel_rfl)) ?_)
      refine EL.quick 1 [19, 20] [(19, .slice A2709 l2708.length C2710), (20, .int .i64 a2716)] (by kernel_rfl) ?_
      obtain ⟨h2751, H⟩ := ite_in H
      obtain ⟨h2752, H⟩ := ite_in H
      obtain ⟨ad2753, rfl⟩ := St.deep_some hS 1 rfl h2751 h2752
      refine EL.of (EO.Y (YO.idx 73 1 ad2753 l2708.length C2710 .i64 a2716 21 (by kernel_rfl) (by kernel_rfl) (by kernel_rfl) (by kernel_rfl) h2751 h2752) ?_)
      refine EL.of (EO.openEl hS 1 ad2753 rfl a2716 h2751 h2752 (fun A2754 C2755 => Ass.box 95 g2707 [.slice (some ad2753) l2708.length C2710, .slice A2713 l2712.length C2714] :: Ass.holed 76 69 kS69 (some ad2753) C2710 l2708 a2716.toNat (A2754, (l2708.getD a2716.toNat []).length, C2755) :: Ass.own 3 (Kd.int .i64) A2713 C2714 l2712 :: os) 76 22 (by kernel_rfl) (by kernel_rfl) (by kernel_rfl) (by kernel_rfl) (fun _ _ => rfl) ?_)
      intro A2754 C2755 hS
      refine EL.quick 2 [4] [(4, .int .i64 ((l2708.getD a2716.toNat []).length : Int))] (by kernel_rfl) ?_
      refine EL.done (by kernel_rfl) ?_
      refine EQ.code ?_
      refine EW.ret (by kernel_rfl) ?_
      have hS := St.as (os' := Ass.box 95 g2707 [.slice (some ad2753) l2708.length C2710, .slice A2713 l2712.length C2714] :: Ass.deep 76 69 kS69 (some ad2753) C2710 l2708 :: Ass.own 3 (Kd.int .i64) A2713 C2714 l2712 :: os) (St.close hS 0 1 rfl rfl rfl l2708 (set_getD _ _)) rfl
      obtain rfl := Option.some.inj H
      exact EQ.leave (.int .i64 ((l2708.getD a2716.toNat []).length : Int)) (by kernel_rfl) ⟨_, rfl, rfl, (hS.re [2, 2, 2] [] rfl (sub_self))⟩

/-! ### confidant/confidantlaw12.known: function 32 -/
def confidantlaw12_known.f (K : Nat)  : Option Bool := lt ([0, 1] : List Int) fun l2776 => (b2 (arena_New.f K l2776) fun (t2777 : List (List S69)) (t2778 : List Int) => (b3 (arena_Arena_Make.f K t2777 t2778 0 0 5) fun (t2791 : List (List S69)) (t2792 : Int) (t2793 : Bool) => (b3 (arena_Arena_Make.f K t2791 t2778 1 3 5) fun (t2803 : List (List S69)) (t2804 : Int) (t2805 : Bool) => (b3 (arena_Arena_Make.f K t2803 t2778 1 3 5) fun (t2815 : List (List S69)) (t2816 : Int) (t2817 : Bool) => (b2 (arena_Arena_Set.f K t2815 t2778 t2804 6) fun (t2826 : List (List S69)) (t2827 : Bool) => (b3 (arena_Arena_Get.f K t2826 t2778 t2804) fun (t2836 : Int) (t2837 : Int) (t2838 : Bool) => (if t2793 = true then (some false) else (if t2805 = true then (if t2804 = 65536 then (if t2817 = true then (some false) else (if t2827 = true then (if t2838 = true then (if t2836 = 3 then (if t2837 = 6 then (b1 (arena_Arena_Count.f K t2826 t2778 1) fun (t2849 : Int) => (if t2849 = 1 then (b2 (arena_Arena_Set.f K t2826 t2778 9 1) fun (t2852 : List (List S69)) (t2853 : Bool) => (some (!(t2853)))) else (some false))) else (some false)) else (some false)) else (some false)) else (some false))) else (some false)) else (some false)))))))))
set_option maxRecDepth 100000 in
theorem confidantlaw12_known.calls {K : Nat} {x2764 : Bool} {B w : World} {os : List Ass} {rs : List Ro} (H : confidantlaw12_known.f K = some x2764) (hS : St B w (os) (rs)) :
    Calls Try.prog 32 [].toArray w (fun en w' => ∃ v, en = .returned v ∧ v = .bool (x2764) ∧ St B w' (os) (rs)) := by
  unfold confidantlaw12_known.f at H
  refine calls_of_EW (args := []) (c := Cd32) 78 Try.func32 (by kernel_rfl) (by kernel_rfl) (by kernel_rfl) ?_
  refine EW.seq (x := Cd32.l) (y := Cd32.r) (by kernel_rfl) ?_
  refine EW.region (id := 0) (ops := Cd32.l.ops) (by kernel_rfl) ?_
  refine EL.quick 1 [] [] (by kernel_rfl) ?_
  refine EL.done (by kernel_rfl) ?_
  refine EQ.code ?_
  refine EW.seq (x := Cd32.r.l) (y := Cd32.r.r) (by kernel_rfl) ?_
  refine EW.region (id := 1) (ops := Cd32.r.l.ops) (by kernel_rfl) ?_
  obtain ⟨l2776, hl2776, H⟩ := lt_out H
  refine EL.of (EO.lit hS (Kd.int .i64) 3 24 2 #[(0, .int .i64 0), (1, .int .i64 1)] [.int .i64 0, .int .i64 1] l2776 11 (by kernel_rfl) (by kernel_rfl) (by kernel_rfl) (fun _ => (by kernel_rfl)) (by rw [hl2776]; rfl) (by kernel_rfl) (fun w G hr => (by rw [hl2776]; exact ⟨[.int .i64 0], [.int .i64 1], rfl, rfl, ⟨[.int .i64 1], [], rfl, rfl, rfl⟩⟩)) ?_)
  intro g2775 w hS
  have hS := St.fr hS 0 rfl
  have hS : St B _ (os) (Ro.sl (Kd.int .i64) (some ⟨g2775, 0, none⟩) 2 l2776 :: Ro.sl (Kd.int .i64) (some ⟨g2775, 0, none⟩) 2 l2776 :: rs) := hS.re [] [] rfl (sub_cons 0 rfl sub_self)
  obtain ⟨t2777, t2778, hc2784, H⟩ := b2_out H
  refine EL.of (EO.callD 34 [.slice (some ⟨g2775, 0, none⟩) l2776.length 2] _ 12 (by kernel_rfl) (by kernel_rfl) (by kernel_rfl) (arena_New.calls hc2784 hS) ?_)
  rintro v w ⟨g2779, A2780, C2781, A2782, C2783, rfl, hS⟩
  refine EL.quick 1 [1] [(1, .pointer (some ⟨g2779, 0, none⟩))] (by kernel_rfl) ?_
  refine EL.done (by kernel_rfl) ?_
  refine EQ.code ?_
  refine EW.seq (x := Cd32.r.r.l) (y := Cd32.r.r.r) (by kernel_rfl) ?_
  refine EW.seq (x := Cd32.r.r.l.l) (y := Cd32.r.r.l.r) (by kernel_rfl) ?_
  refine EW.region (id := 2) (ops := Cd32.r.r.l.l.ops) (by kernel_rfl) ?_
  refine EL.quick 2 [1, 14] [(1, .pointer (some ⟨g2779, 0, none⟩)), (14, .bool (false))] (by kernel_rfl) ?_
  refine EL.done (by kernel_rfl) ?_
  refine EQ.code ?_
  refine EW.condF (o := (.tmp 14)) (x := Cd32.r.r.l.r.l) (y := Cd32.r.r.l.r.r) (by kernel_rfl) (by kernel_rfl) ?_
  refine EW.skip (by kernel_rfl) ?_
  refine EQ.code ?_
  refine EW.seq (x := Cd32.r.r.r.l) (y := Cd32.r.r.r.r) (by kernel_rfl) ?_
  refine EW.region (id := 4) (ops := Cd32.r.r.r.l.ops) (by kernel_rfl) ?_
  refine EL.quick 1 [1, 16] [(1, .pointer (some ⟨g2779, 0, none⟩)), (16, .pointer (some ⟨g2779, 0, none⟩))] (by kernel_rfl) ?_
  obtain ⟨t2791, t2792, t2793, hc2796, H⟩ := b3_out H
  refine EL.of (EO.callD 36 [.pointer (some ⟨g2779, 0, none⟩), .int .i64 0, .int .i64 0, .int .i32 5] _ 17 (by kernel_rfl) (by kernel_rfl) (by kernel_rfl) (arena_Arena_Make.calls hc2796 hS) ?_)
  rintro v w ⟨A2794, C2795, rfl, hS⟩
  refine EL.quick 5 [1, 3] [(1, .pointer (some ⟨g2779, 0, none⟩)), (3, .bool (t2793))] (by kernel_rfl) ?_
  refine EL.done (by kernel_rfl) ?_
  refine EQ.code ?_
  refine EW.seq (x := Cd32.r.r.r.r.l) (y := Cd32.r.r.r.r.r) (by kernel_rfl) ?_
  refine EW.region (id := 5) (ops := Cd32.r.r.r.r.l.ops) (by kernel_rfl) ?_
  refine EL.quick 1 [1, 3, 21] [(1, .pointer (some ⟨g2779, 0, none⟩)), (3, .bool (t2793)), (21, .pointer (some ⟨g2779, 0, none⟩))] (by kernel_rfl) ?_
  obtain ⟨t2803, t2804, t2805, hc2808, H⟩ := b3_out H
  refine EL.of (EO.callD 36 [.pointer (some ⟨g2779, 0, none⟩), .int .i64 1, .int .i64 3, .int .i32 5] _ 22 (by kernel_rfl) (by kernel_rfl) (by kernel_rfl) (arena_Arena_Make.calls hc2808 hS) ?_)
  rintro v w ⟨A2806, C2807, rfl, hS⟩
  refine EL.quick 5 [1, 3, 4, 5] [(1, .pointer (some ⟨g2779, 0, none⟩)), (3, .bool (t2793)), (4, .int .i32 t2804), (5, .bool (t2805))] (by kernel_rfl) ?_
  refine EL.done (by kernel_rfl) ?_
  refine EQ.code ?_
  refine EW.seq (x := Cd32.r.r.r.r.r.l) (y := Cd32.r.r.r.r.r.r) (by kernel_rfl) ?_
  refine EW.region (id := 6) (ops := Cd32.r.r.r.r.r.l.ops) (by kernel_rfl) ?_
  refine EL.quick 1 [1, 3, 4, 5, 26] [(1, .pointer (some ⟨g2779, 0, none⟩)), (3, .bool (t2793)), (4, .int .i32 t2804), (5, .bool (t2805)), (26, .pointer (some ⟨g2779, 0, none⟩))] (by kernel_rfl) ?_
  obtain ⟨t2815, t2816, t2817, hc2820, H⟩ := b3_out H
  refine EL.of (EO.callD 36 [.pointer (some ⟨g2779, 0, none⟩), .int .i64 1, .int .i64 3, .int .i32 5] _ 27 (by kernel_rfl) (by kernel_rfl) (by kernel_rfl) (arena_Arena_Make.calls hc2820 hS) ?_)
  rintro v w ⟨A2818, C2819, rfl, hS⟩
  refine EL.quick 5 [1, 3, 4, 5, 7] [(1, .pointer (some ⟨g2779, 0, none⟩)), (3, .bool (t2793)), (4, .int .i32 t2804), (5, .bool (t2805)), (7, .bool (t2817))] (by kernel_rfl) ?_
  refine EL.done (by kernel_rfl) ?_
  refine EQ.code ?_
  refine EW.seq (x := Cd32.r.r.r.r.r.r.l) (y := Cd32.r.r.r.r.r.r.r) (by kernel_rfl) ?_
  refine EW.region (id := 7) (ops := Cd32.r.r.r.r.r.r.l.ops) (by kernel_rfl) ?_
  refine EL.quick 2 [1, 3, 4, 5, 7, 30, 31] [(1, .pointer (some ⟨g2779, 0, none⟩)), (3, .bool (t2793)), (4, .int .i32 t2804), (5, .bool (t2805)), (7, .bool (t2817)), (30, .pointer (some ⟨g2779, 0, none⟩)), (31, .int .i32 t2804)] (by kernel_rfl) ?_
  obtain ⟨t2826, t2827, hc2830, H⟩ := b2_out H
  refine EL.of (EO.callD 40 [.pointer (some ⟨g2779, 0, none⟩), .int .i32 t2804, .int .i32 6] _ 32 (by kernel_rfl) (by kernel_rfl) (by kernel_rfl) (arena_Arena_Set.calls hc2830 hS) ?_)
  rintro v w ⟨A2828, C2829, rfl, hS⟩
  refine EL.quick 1 [1, 3, 4, 5, 7, 8] [(1, .pointer (some ⟨g2779, 0, none⟩)), (3, .bool (t2793)), (4, .int .i32 t2804), (5, .bool (t2805)), (7, .bool (t2817)), (8, .bool (t2827))] (by kernel_rfl) ?_
  refine EL.done (by kernel_rfl) ?_
  refine EQ.code ?_
  refine EW.seq (x := Cd32.r.r.r.r.r.r.r.l) (y := Cd32.r.r.r.r.r.r.r.r) (by kernel_rfl) ?_
  refine EW.region (id := 8) (ops := Cd32.r.r.r.r.r.r.r.l.ops) (by kernel_rfl) ?_
  refine EL.quick 2 [1, 3, 4, 5, 7, 8, 34, 35] [(1, .pointer (some ⟨g2779, 0, none⟩)), (3, .bool (t2793)), (4, .int .i32 t2804), (5, .bool (t2805)), (7, .bool (t2817)), (8, .bool (t2827)), (34, .pointer (some ⟨g2779, 0, none⟩)), (35, .int .i32 t2804)] (by kernel_rfl) ?_
  obtain ⟨t2836, t2837, t2838, hc2839, H⟩ := b3_out H
  refine EL.of (EO.callD 38 [.pointer (some ⟨g2779, 0, none⟩), .int .i32 t2804] _ 36 (by kernel_rfl) (by kernel_rfl) (by kernel_rfl) (arena_Arena_Get.calls hc2839 hS) ?_)
  rintro v w ⟨rfl, hS⟩
  refine EL.quick 3 [1, 3, 4, 5, 7, 8, 37, 38] [(1, .pointer (some ⟨g2779, 0, none⟩)), (3, .bool (t2793)), (4, .int .i32 t2804), (5, .bool (t2805)), (7, .bool (t2817)), (8, .bool (t2827)), (37, .agg #[.int .i64 t2836, .int .i32 t2837]), (38, .bool (t2838))] (by kernel_rfl) ?_
  refine EL.of (EO.alloc hS 69 (.agg #[.int .i64 0, .int .i32 0]) [.int .i64 0, .int .i32 0] 9 (by kernel_rfl) (by kernel_rfl) (by kernel_rfl) (by kernel_rfl) (by first | rfl | kernel_rfl) ?_)
  intro g2840 w hS
  refine EL.of (EO.storeBox (os' := Ass.box 69 g2840 [.int .i64 t2836, .int .i32 t2837] :: Ass.box 95 g2779 [.slice A2828 t2826.length C2829, .slice A2782 t2778.length C2783] :: Ass.deep 76 69 kS69 A2828 C2829 t2826 :: Ass.own 3 (Kd.int .i64) A2782 C2783 t2778 :: os) hS 0 rfl 69 0 (.agg #[.int .i64 t2836, .int .i32 t2837]) [.int .i64 t2836, .int .i32 t2837] (by kernel_rfl) (by kernel_rfl) (by kernel_rfl) (by kernel_rfl) (by kernel_rfl) (by kernel_rfl) rfl rfl ?_)
  intro w hS
  refine EL.quick 1 [1, 3, 4, 5, 7, 8, 9, 10] [(1, .pointer (some ⟨g2779, 0, none⟩)), (3, .bool (t2793)), (4, .int .i32 t2804), (5, .bool (t2805)), (7, .bool (t2817)), (8, .bool (t2827)), (9, .pointer (some ⟨g2840, 0, none⟩)), (10, .bool (t2838))] (by kernel_rfl) ?_
  refine EL.done (by kernel_rfl) ?_
  refine EQ.code ?_
  refine EW.seq (x := Cd32.r.r.r.r.r.r.r.r.l) (y := Cd32.r.r.r.r.r.r.r.r.r) (by kernel_rfl) ?_
  refine EW.region (id := 9) (ops := Cd32.r.r.r.r.r.r.r.r.l.ops) (by kernel_rfl) ?_
  refine EL.quick 3 [1, 4, 5, 7, 8, 9, 10, 41] [(1, .pointer (some ⟨g2779, 0, none⟩)), (4, .int .i32 t2804), (5, .bool (t2805)), (7, .bool (t2817)), (8, .bool (t2827)), (9, .pointer (some ⟨g2840, 0, none⟩)), (10, .bool (t2838)), (41, .bool (!(t2793)))] (by kernel_rfl) ?_
  by_cases h2841 : t2793 = true
  · rw [if_pos h2841] at H
    refine EL.keep [1, 4, 5, 7, 8, 9, 10, 41] [(1, .pointer (some ⟨g2779, 0, none⟩)), (4, .int .i32 t2804), (5, .bool (t2805)), (7, .bool (t2817)), (8, .bool (t2827)), (9, .pointer (some ⟨g2840, 0, none⟩)), (10, .bool (t2838)), (41, .bool (!(t2793)))] (by kernel_rfl) ?_
    refine EL.as' [(1, .pointer (some ⟨g2779, 0, none⟩)), (4, .int .i32 t2804), (5, .bool (t2805)), (7, .bool (t2817)), (8, .bool (t2827)), (9, .pointer (some ⟨g2840, 0, none⟩)), (10, .bool (t2838)), (41, .bool (false))] (by simp only [h2841, Bool.not_true, Bool.not_false]) ?_
    refine EL.quick 37 [0] [(0, .bool (false))] (by kernel_rfl) ?_
    refine EL.done (by kernel_rfl) ?_
    refine EQ.code ?_
    refine EW.ret (by kernel_rfl) ?_
    obtain rfl := Option.some.inj H
    exact EQ.leave (.bool (false)) (by kernel_rfl) ⟨_, rfl, rfl, (hS.re [] [0, 0, 0, 0] rfl (sub_tail (sub_tail (sub_self))))⟩
  · rw [if_neg h2841] at H
    refine EL.keep [1, 4, 5, 7, 8, 9, 10, 41] [(1, .pointer (some ⟨g2779, 0, none⟩)), (4, .int .i32 t2804), (5, .bool (t2805)), (7, .bool (t2817)), (8, .bool (t2827)), (9, .pointer (some ⟨g2840, 0, none⟩)), (10, .bool (t2838)), (41, .bool (!(t2793)))] (by kernel_rfl) ?_
    refine EL.as' [(1, .pointer (some ⟨g2779, 0, none⟩)), (4, .int .i32 t2804), (5, .bool (t2805)), (7, .bool (t2817)), (8, .bool (t2827)), (9, .pointer (some ⟨g2840, 0, none⟩)), (10, .bool (t2838)), (41, .bool (true))] (by simp only [(Bool.eq_false_iff.2 h2841), Bool.not_true, Bool.not_false]) ?_
    refine EL.quick 3 [1, 4, 7, 8, 9, 10, 44] [(1, .pointer (some ⟨g2779, 0, none⟩)), (4, .int .i32 t2804), (7, .bool (t2817)), (8, .bool (t2827)), (9, .pointer (some ⟨g2840, 0, none⟩)), (10, .bool (t2838)), (44, .bool (t2805))] (by kernel_rfl) ?_
    by_cases h2842 : t2805 = true
    · rw [if_pos h2842] at H
      refine EL.keep [1, 4, 7, 8, 9, 10, 44] [(1, .pointer (some ⟨g2779, 0, none⟩)), (4, .int .i32 t2804), (7, .bool (t2817)), (8, .bool (t2827)), (9, .pointer (some ⟨g2840, 0, none⟩)), (10, .bool (t2838)), (44, .bool (t2805))] (by kernel_rfl) ?_
      refine EL.as' [(1, .pointer (some ⟨g2779, 0, none⟩)), (4, .int .i32 t2804), (7, .bool (t2817)), (8, .bool (t2827)), (9, .pointer (some ⟨g2840, 0, none⟩)), (10, .bool (t2838)), (44, .bool (true))] (by simp only [h2842, Bool.not_true, Bool.not_false]) ?_
      refine EL.quick 4 [1, 7, 8, 9, 10, 48] [(1, .pointer (some ⟨g2779, 0, none⟩)), (7, .bool (t2817)), (8, .bool (t2827)), (9, .pointer (some ⟨g2840, 0, none⟩)), (10, .bool (t2838)), (48, .bool (decide (t2804 = 65536)))] (by kernel_rfl) ?_
      by_cases h2843 : t2804 = 65536
      · rw [if_pos h2843] at H
        refine EL.keep [1, 7, 8, 9, 10, 48] [(1, .pointer (some ⟨g2779, 0, none⟩)), (7, .bool (t2817)), (8, .bool (t2827)), (9, .pointer (some ⟨g2840, 0, none⟩)), (10, .bool (t2838)), (48, .bool (decide (t2804 = 65536)))] (by kernel_rfl) ?_
        refine EL.as' [(1, .pointer (some ⟨g2779, 0, none⟩)), (7, .bool (t2817)), (8, .bool (t2827)), (9, .pointer (some ⟨g2840, 0, none⟩)), (10, .bool (t2838)), (48, .bool (true))] (by simp only [dec_t h2843, Bool.not_true, Bool.not_false]) ?_
        refine EL.quick 4 [1, 8, 9, 10, 52] [(1, .pointer (some ⟨g2779, 0, none⟩)), (8, .bool (t2827)), (9, .pointer (some ⟨g2840, 0, none⟩)), (10, .bool (t2838)), (52, .bool (!(t2817)))] (by kernel_rfl) ?_
        by_cases h2844 : t2817 = true
        · rw [if_pos h2844] at H
          refine EL.keep [1, 8, 9, 10, 52] [(1, .pointer (some ⟨g2779, 0, none⟩)), (8, .bool (t2827)), (9, .pointer (some ⟨g2840, 0, none⟩)), (10, .bool (t2838)), (52, .bool (!(t2817)))] (by kernel_rfl) ?_
          refine EL.as' [(1, .pointer (some ⟨g2779, 0, none⟩)), (8, .bool (t2827)), (9, .pointer (some ⟨g2840, 0, none⟩)), (10, .bool (t2838)), (52, .bool (false))] (by simp only [h2844, Bool.not_true, Bool.not_false]) ?_
          refine EL.quick 26 [0] [(0, .bool (false))] (by kernel_rfl) ?_
          refine EL.done (by kernel_rfl) ?_
          refine EQ.code ?_
          refine EW.ret (by kernel_rfl) ?_
          obtain rfl := Option.some.inj H
          exact EQ.leave (.bool (false)) (by kernel_rfl) ⟨_, rfl, rfl, (hS.re [] [0, 0, 0, 0] rfl (sub_tail (sub_tail (sub_self))))⟩
        · rw [if_neg h2844] at H
          refine EL.keep [1, 8, 9, 10, 52] [(1, .pointer (some ⟨g2779, 0, none⟩)), (8, .bool (t2827)), (9, .pointer (some ⟨g2840, 0, none⟩)), (10, .bool (t2838)), (52, .bool (!(t2817)))] (by kernel_rfl) ?_
          refine EL.as' [(1, .pointer (some ⟨g2779, 0, none⟩)), (8, .bool (t2827)), (9, .pointer (some ⟨g2840, 0, none⟩)), (10, .bool (t2838)), (52, .bool (true))] (by simp only [(Bool.eq_false_iff.2 h2844), Bool.not_true, Bool.not_false]) ?_
          refine EL.quick 3 [1, 9, 10, 55] [(1, .pointer (some ⟨g2779, 0, none⟩)), (9, .pointer (some ⟨g2840, 0, none⟩)), (10, .bool (t2838)), (55, .bool (t2827))] (by kernel_rfl) ?_
          by_cases h2845 : t2827 = true
          · rw [if_pos h2845] at H
            refine EL.keep [1, 9, 10, 55] [(1, .pointer (some ⟨g2779, 0, none⟩)), (9, .pointer (some ⟨g2840, 0, none⟩)), (10, .bool (t2838)), (55, .bool (t2827))] (by kernel_rfl) ?_
            refine EL.as' [(1, .pointer (some ⟨g2779, 0, none⟩)), (9, .pointer (some ⟨g2840, 0, none⟩)), (10, .bool (t2838)), (55, .bool (true))] (by simp only [h2845, Bool.not_true, Bool.not_false]) ?_
            refine EL.quick 3 [1, 9, 58] [(1, .pointer (some ⟨g2779, 0, none⟩)), (9, .pointer (some ⟨g2840, 0, none⟩)), (58, .bool (t2838))] (by kernel_rfl) ?_
            by_cases h2846 : t2838 = true
            · rw [if_pos h2846] at H
              refine EL.keep [1, 9, 58] [(1, .pointer (some ⟨g2779, 0, none⟩)), (9, .pointer (some ⟨g2840, 0, none⟩)), (58, .bool (t2838))] (by kernel_rfl) ?_
              refine EL.as' [(1, .pointer (some ⟨g2779, 0, none⟩)), (9, .pointer (some ⟨g2840, 0, none⟩)), (58, .bool (true))] (by simp only [h2846, Bool.not_true, Bool.not_false]) ?_
              refine EL.quick 1 [1, 9, 58, 59] [(1, .pointer (some ⟨g2779, 0, none⟩)), (9, .pointer (some ⟨g2840, 0, none⟩)), (58, .bool (true)), (59, .pointer (some ⟨g2840, 0, none⟩))] (by kernel_rfl) ?_
              refine EL.of (EO.Y (YO.loadBox hS 0 rfl 3 0 1 (.int .i64 t2836) 60 (by kernel_rfl) (by kernel_rfl) (by kernel_rfl) (by kernel_rfl)) ?_)
              refine EL.quick 3 [1, 9, 63] [(1, .pointer (some ⟨g2779, 0, none⟩)), (9, .pointer (some ⟨g2840, 0, none⟩)), (63, .bool (decide (t2836 = 3)))] (by kernel_rfl) ?_
              by_cases h2847 : t2836 = 3
              · rw [if_pos h2847] at H
                refine EL.keep [1, 9, 63] [(1, .pointer (some ⟨g2779, 0, none⟩)), (9, .pointer (some ⟨g2840, 0, none⟩)), (63, .bool (decide (t2836 = 3)))] (by kernel_rfl) ?_
                refine EL.as' [(1, .pointer (some ⟨g2779, 0, none⟩)), (9, .pointer (some ⟨g2840, 0, none⟩)), (63, .bool (true))] (by simp only [dec_t h2847, Bool.not_true, Bool.not_false]) ?_
                refine EL.quick 1 [1, 63, 64] [(1, .pointer (some ⟨g2779, 0, none⟩)), (63, .bool (true)), (64, .pointer (some ⟨g2840, 1, none⟩))] (by kernel_rfl) ?_
                refine EL.of (EO.Y (YO.loadBox hS 0 rfl 21 1 1 (.int .i32 t2837) 65 (by kernel_rfl) (by kernel_rfl) (by kernel_rfl) (by kernel_rfl)) ?_)
                refine EL.quick 3 [1, 68] [(1, .pointer (some ⟨g2779, 0, none⟩)), (68, .bool (decide (t2837 = 6)))] (by kernel_rfl) ?_
                by_cases h2848 : t2837 = 6
                · rw [if_pos h2848] at H
                  refine EL.keep [1, 68] [(1, .pointer (some ⟨g2779, 0, none⟩)), (68, .bool (decide (t2837 = 6)))] (by kernel_rfl) ?_
                  refine EL.as' [(1, .pointer (some ⟨g2779, 0, none⟩)), (68, .bool (true))] (by simp only [dec_t h2848, Bool.not_true, Bool.not_false]) ?_
                  refine EL.quick 1 [1, 68, 69] [(1, .pointer (some ⟨g2779, 0, none⟩)), (68, .bool (true)), (69, .pointer (some ⟨g2779, 0, none⟩))] (by kernel_rfl) ?_
                  have hS : St B _ (Ass.box 95 g2779 [.slice A2828 t2826.length C2829, .slice A2782 t2778.length C2783] :: Ass.deep 76 69 kS69 A2828 C2829 t2826 :: Ass.own 3 (Kd.int .i64) A2782 C2783 t2778 :: Ass.box 69 g2840 [.int .i64 t2836, .int .i32 t2837] :: os) (Ro.sl (Kd.int .i64) (some ⟨g2775, 0, none⟩) 2 l2776 :: Ro.sl (Kd.int .i64) (some ⟨g2775, 0, none⟩) 2 l2776 :: rs) := hS.re [3, 3, 3] [] rfl sub_self
                  obtain ⟨t2849, hc2850, H⟩ := b1_out H
                  refine EL.of (EO.callD 42 [.pointer (some ⟨g2779, 0, none⟩), .int .i64 1] _ 70 (by kernel_rfl) (by kernel_rfl) (by kernel_rfl) (arena_Arena_Count.calls hc2850 hS) ?_)
                  rintro v w ⟨rfl, hS⟩
                  refine EL.quick 3 [1, 73] [(1, .pointer (some ⟨g2779, 0, none⟩)), (73, .bool (decide (t2849 = 1)))] (by kernel_rfl) ?_
                  by_cases h2851 : t2849 = 1
                  · rw [if_pos h2851] at H
                    refine EL.keep [1, 73] [(1, .pointer (some ⟨g2779, 0, none⟩)), (73, .bool (decide (t2849 = 1)))] (by kernel_rfl) ?_
                    refine EL.as' [(1, .pointer (some ⟨g2779, 0, none⟩)), (73, .bool (true))] (by simp only [dec_t h2851, Bool.not_true, Bool.not_false]) ?_
                    refine EL.quick 1 [73, 74] [(73, .bool (true)), (74, .pointer (some ⟨g2779, 0, none⟩))] (by kernel_rfl) ?_
                    obtain ⟨t2852, t2853, hc2856, H⟩ := b2_out H
                    refine EL.of (EO.callD 40 [.pointer (some ⟨g2779, 0, none⟩), .int .i32 9, .int .i32 1] _ 75 (by kernel_rfl) (by kernel_rfl) (by kernel_rfl) (arena_Arena_Set.calls hc2856 hS) ?_)
                    rintro v w ⟨A2854, C2855, rfl, hS⟩
                    refine EL.quick 3 [0] [(0, .bool (!(t2853)))] (by kernel_rfl) ?_
                    refine EL.done (by kernel_rfl) ?_
                    refine EQ.code ?_
                    refine EW.ret (by kernel_rfl) ?_
                    obtain rfl := Option.some.inj H
                    exact EQ.leave (.bool (!(t2853))) (by kernel_rfl) ⟨_, rfl, rfl, (hS.re [] [0, 0, 0, 0] rfl (sub_tail (sub_tail (sub_self))))⟩
                  · rw [if_neg h2851] at H
                    refine EL.keep [1, 73] [(1, .pointer (some ⟨g2779, 0, none⟩)), (73, .bool (decide (t2849 = 1)))] (by kernel_rfl) ?_
                    refine EL.as' [(1, .pointer (some ⟨g2779, 0, none⟩)), (73, .bool (false))] (by simp only [dec_f h2851, Bool.not_true, Bool.not_false]) ?_
                    refine EL.quick 5 [0] [(0, .bool (false))] (by kernel_rfl) ?_
                    refine EL.done (by kernel_rfl) ?_
                    refine EQ.code ?_
                    refine EW.ret (by kernel_rfl) ?_
                    obtain rfl := Option.some.inj H
                    exact EQ.leave (.bool (false)) (by kernel_rfl) ⟨_, rfl, rfl, (hS.re [] [0, 0, 0, 0] rfl (sub_tail (sub_tail (sub_self))))⟩
                · rw [if_neg h2848] at H
                  refine EL.keep [1, 68] [(1, .pointer (some ⟨g2779, 0, none⟩)), (68, .bool (decide (t2837 = 6)))] (by kernel_rfl) ?_
                  refine EL.as' [(1, .pointer (some ⟨g2779, 0, none⟩)), (68, .bool (false))] (by simp only [dec_f h2848, Bool.not_true, Bool.not_false]) ?_
                  refine EL.quick 10 [0] [(0, .bool (false))] (by kernel_rfl) ?_
                  refine EL.done (by kernel_rfl) ?_
                  refine EQ.code ?_
                  refine EW.ret (by kernel_rfl) ?_
                  obtain rfl := Option.some.inj H
                  exact EQ.leave (.bool (false)) (by kernel_rfl) ⟨_, rfl, rfl, (hS.re [] [0, 0, 0, 0] rfl (sub_tail (sub_tail (sub_self))))⟩
              · rw [if_neg h2847] at H
                refine EL.keep [1, 9, 63] [(1, .pointer (some ⟨g2779, 0, none⟩)), (9, .pointer (some ⟨g2840, 0, none⟩)), (63, .bool (decide (t2836 = 3)))] (by kernel_rfl) ?_
                refine EL.as' [(1, .pointer (some ⟨g2779, 0, none⟩)), (9, .pointer (some ⟨g2840, 0, none⟩)), (63, .bool (false))] (by simp only [dec_f h2847, Bool.not_true, Bool.not_false]) ?_
                refine EL.quick 15 [0] [(0, .bool (false))] (by kernel_rfl) ?_
                refine EL.done (by kernel_rfl) ?_
                refine EQ.code ?_
                refine EW.ret (by kernel_rfl) ?_
                obtain rfl := Option.some.inj H
                exact EQ.leave (.bool (false)) (by kernel_rfl) ⟨_, rfl, rfl, (hS.re [] [0, 0, 0, 0] rfl (sub_tail (sub_tail (sub_self))))⟩
            · rw [if_neg h2846] at H
              refine EL.keep [1, 9, 58] [(1, .pointer (some ⟨g2779, 0, none⟩)), (9, .pointer (some ⟨g2840, 0, none⟩)), (58, .bool (t2838))] (by kernel_rfl) ?_
              refine EL.as' [(1, .pointer (some ⟨g2779, 0, none⟩)), (9, .pointer (some ⟨g2840, 0, none⟩)), (58, .bool (false))] (by simp only [(Bool.eq_false_iff.2 h2846), Bool.not_true, Bool.not_false]) ?_
              refine EL.quick 20 [0] [(0, .bool (false))] (by kernel_rfl) ?_
              refine EL.done (by kernel_rfl) ?_
              refine EQ.code ?_
              refine EW.ret (by kernel_rfl) ?_
              obtain rfl := Option.some.inj H
              exact EQ.leave (.bool (false)) (by kernel_rfl) ⟨_, rfl, rfl, (hS.re [] [0, 0, 0, 0] rfl (sub_tail (sub_tail (sub_self))))⟩
          · rw [if_neg h2845] at H
            refine EL.keep [1, 9, 10, 55] [(1, .pointer (some ⟨g2779, 0, none⟩)), (9, .pointer (some ⟨g2840, 0, none⟩)), (10, .bool (t2838)), (55, .bool (t2827))] (by kernel_rfl) ?_
            refine EL.as' [(1, .pointer (some ⟨g2779, 0, none⟩)), (9, .pointer (some ⟨g2840, 0, none⟩)), (10, .bool (t2838)), (55, .bool (false))] (by simp only [(Bool.eq_false_iff.2 h2845), Bool.not_true, Bool.not_false]) ?_
            refine EL.quick 23 [0] [(0, .bool (false))] (by kernel_rfl) ?_
            refine EL.done (by kernel_rfl) ?_
            refine EQ.code ?_
            refine EW.ret (by kernel_rfl) ?_
            obtain rfl := Option.some.inj H
            exact EQ.leave (.bool (false)) (by kernel_rfl) ⟨_, rfl, rfl, (hS.re [] [0, 0, 0, 0] rfl (sub_tail (sub_tail (sub_self))))⟩
      · rw [if_neg h2843] at H
        refine EL.keep [1, 7, 8, 9, 10, 48] [(1, .pointer (some ⟨g2779, 0, none⟩)), (7, .bool (t2817)), (8, .bool (t2827)), (9, .pointer (some ⟨g2840, 0, none⟩)), (10, .bool (t2838)), (48, .bool (decide (t2804 = 65536)))] (by kernel_rfl) ?_
        refine EL.as' [(1, .pointer (some ⟨g2779, 0, none⟩)), (7, .bool (t2817)), (8, .bool (t2827)), (9, .pointer (some ⟨g2840, 0, none⟩)), (10, .bool (t2838)), (48, .bool (false))] (by simp only [dec_f h2843, Bool.not_true, Bool.not_false]) ?_
        refine EL.quick 30 [0] [(0, .bool (false))] (by kernel_rfl) ?_
        refine EL.done (by kernel_rfl) ?_
        refine EQ.code ?_
        refine EW.ret (by kernel_rfl) ?_
        obtain rfl := Option.some.inj H
        exact EQ.leave (.bool (false)) (by kernel_rfl) ⟨_, rfl, rfl, (hS.re [] [0, 0, 0, 0] rfl (sub_tail (sub_tail (sub_self))))⟩
    · rw [if_neg h2842] at H
      refine EL.keep [1, 4, 7, 8, 9, 10, 44] [(1, .pointer (some ⟨g2779, 0, none⟩)), (4, .int .i32 t2804), (7, .bool (t2817)), (8, .bool (t2827)), (9, .pointer (some ⟨g2840, 0, none⟩)), (10, .bool (t2838)), (44, .bool (t2805))] (by kernel_rfl) ?_
      refine EL.as' [(1, .pointer (some ⟨g2779, 0, none⟩)), (4, .int .i32 t2804), (7, .bool (t2817)), (8, .bool (t2827)), (9, .pointer (some ⟨g2840, 0, none⟩)), (10, .bool (t2838)), (44, .bool (false))] (by simp only [(Bool.eq_false_iff.2 h2842), Bool.not_true, Bool.not_false]) ?_
      refine EL.quick 34 [0] [(0, .bool (false))] (by kernel_rfl) ?_
      refine EL.done (by kernel_rfl) ?_
      refine EQ.code ?_
      refine EW.ret (by kernel_rfl) ?_
      obtain rfl := Option.some.inj H
      exact EQ.leave (.bool (false)) (by kernel_rfl) ⟨_, rfl, rfl, (hS.re [] [0, 0, 0, 0] rfl (sub_tail (sub_tail (sub_self))))⟩

end Go.Proofs.Ytifnjijlbcacoaa.G
