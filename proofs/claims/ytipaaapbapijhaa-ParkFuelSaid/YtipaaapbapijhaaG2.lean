import Derived.Test.YtipaaapbapijhaaProg
import Derived.Test.YtipaaapbapijhaaFwEq
import Derived.Test.YtipaaapbapijhaaFwOpen
import Derived.Test.YtipaaapbapijhaaG0
namespace Go.Proofs.Ytipaaapbapijhaa.G
open Go Go.Fw Go.RowKit Go.Proofs
set_option linter.unusedVariables false
set_option linter.unusedSimpArgs false

/-! ### confidant/park.New: function 12 -/
def park_New.f (K : Nat)  : Option (List S60) := some ([] : List S60)
set_option maxRecDepth 100000 in
theorem park_New.calls {K : Nat} {x901 : List S60} {B w : World} {os : List Ass} {rs : List Ro} (H : park_New.f K = some x901) (hS : St B w (os) (rs)) :
    Calls Try.prog 12 [].toArray w (fun en w' => ∃ v, en = .returned v ∧ ∃ g900 : Nat, ∃ A902 : Option Addr, ∃ C903 : Nat, v = .pointer (some ⟨g900, 0, none⟩) ∧ St B w' (Ass.box 93 g900 [.slice A902 x901.length C903] :: Ass.own 60 kS60 A902 C903 x901 :: os) (rs)) := by
  unfold park_New.f at H
  refine calls_of_EW (args := []) (c := Cd12) 3 Try.func12 (by kernel_rfl) (by kernel_rfl) (by kernel_rfl) ?_
  refine EW.seq (x := Cd12.l) (y := Cd12.r) (by kernel_rfl) ?_
  refine EW.region (id := 0) (ops := Cd12.l.ops) (by kernel_rfl) ?_
  refine EL.quick 1 [] [] (by kernel_rfl) ?_
  refine EL.done (by kernel_rfl) ?_
  refine EQ.code ?_
  refine EW.seq (x := Cd12.r.l) (y := Cd12.r.r) (by kernel_rfl) ?_
  refine EW.region (id := 1) (ops := Cd12.r.l.ops) (by kernel_rfl) ?_
  refine EL.quick 1 [1] [(1, .agg #[.slice none ([] : List S60).length 0])] (by kernel_rfl) ?_
  refine EL.of (EO.box hS 93 (.agg #[.slice none ([] : List S60).length 0]) [.slice none ([] : List S60).length 0] 2 (by kernel_rfl) (by kernel_rfl) (by kernel_rfl) (by first | rfl | kernel_rfl) ?_)
  intro g905 w hS
  refine EL.quick 1 [0] [(0, .pointer (some ⟨g905, 0, none⟩))] (by kernel_rfl) ?_
  refine EL.done (by kernel_rfl) ?_
  refine EQ.code ?_
  refine EW.ret (by kernel_rfl) ?_
  have hS := St.nilO hS 60 kS60
  obtain rfl := Option.some.inj H
  exact EQ.leave (.pointer (some ⟨g905, 0, none⟩)) (by kernel_rfl) ⟨_, rfl, g905, none, 0, rfl, (hS.re [0, 1] [] rfl (sub_self))⟩

/-! ### confidant/ident.Of: function 41 -/
def ident_Of.f (K : Nat) (a995 : Int) (a996 : Int) : Option (Int × Bool) := lt (fun (x1046 : Bool) => (if x1046 = true then (some (0, false)) else (lt (IntKind.i32.wrap (IntKind.i64.wrap ((IntKind.i64.wrap (a995 * 65536)) + a996))) fun y1052 => (some (y1052, true))))) fun j1047 => (if a995 < 0 then (j1047 true) else (if a995 ≥ 16 then (j1047 true) else (if a996 < 0 then (j1047 true) else (j1047 (decide (a996 ≥ 65536))))))
set_option maxRecDepth 100000 in
theorem ident_Of.calls {K : Nat} {a995 : Int} {a996 : Int} {x1024 : Int} {x1025 : Bool} {B w : World} {os : List Ass} {rs : List Ro} (H : ident_Of.f K a995 a996 = some (x1024, x1025)) (hS : St B w (os) (rs)) :
    Calls Try.prog 41 [.int .i64 a995, .int .i64 a996].toArray w (fun en w' => ∃ v, en = .returned v ∧ v = .tuple #[.int .i32 x1024, .bool (x1025)] ∧ St B w' (os) (rs)) := by
  unfold ident_Of.f at H
  refine calls_of_EW (args := [.int .i64 a995, .int .i64 a996]) (c := Cd41) 25 Try.func41 (by kernel_rfl) (by kernel_rfl) (by kernel_rfl) ?_
  refine EW.seq (x := Cd41.l) (y := Cd41.r) (by kernel_rfl) ?_
  refine EW.region (id := 0) (ops := Cd41.l.ops) (by kernel_rfl) ?_
  refine EL.quick 2 [0, 1] [(0, .int .i64 a995), (1, .int .i64 a996)] (by kernel_rfl) ?_
  refine EL.done (by kernel_rfl) ?_
  refine EQ.code ?_
  refine EW.seq (x := Cd41.r.l) (y := Cd41.r.r) (by kernel_rfl) ?_
  obtain ⟨j1047, hj1047, H⟩ := lt_out H
  refine EW.cut (x := Cd41.r.l.l) (y := Cd41.r.l.r) (fun a w => ∃ x1046 : Bool, Sat 25 [(0, .int .i64 a995), (1, .int .i64 a996), (19, .bool (x1046))] a ∧ St B w (os) (rs) ∧ j1047 x1046 = some (x1024, x1025)) (by kernel_rfl) ?_ (fun a w hI => ?_)
  · refine EW.region (id := 1) (ops := Cd41.r.l.l.ops) (by kernel_rfl) ?_
    refine EL.quick 3 [0, 1, 8] [(0, .int .i64 a995), (1, .int .i64 a996), (8, .bool (decide (a995 < 0)))] (by kernel_rfl) ?_
    by_cases h1048 : a995 < 0
    · rw [if_pos h1048] at H
      refine EL.keep [0, 1, 8] [(0, .int .i64 a995), (1, .int .i64 a996), (8, .bool (decide (a995 < 0)))] (by kernel_rfl) ?_
      refine EL.as' [(0, .int .i64 a995), (1, .int .i64 a996), (8, .bool (true))] (by simp only [dec_t h1048, Bool.not_true, Bool.not_false]) ?_
      refine EL.quick 11 [0, 1, 19] [(0, .int .i64 a995), (1, .int .i64 a996), (19, .bool (true))] (by kernel_rfl) ?_
      refine EL.done (by kernel_rfl) ?_
      refine EQ.to ?_
      refine EQ.keep [0, 1, 19] [(0, .int .i64 a995), (1, .int .i64 a996), (19, .bool (true))] (by kernel_rfl) ?_
      exact fun a ha => ⟨true, ha, (hS.re [] [] rfl (sub_self)), H⟩
    · rw [if_neg h1048] at H
      refine EL.keep [0, 1, 8] [(0, .int .i64 a995), (1, .int .i64 a996), (8, .bool (decide (a995 < 0)))] (by kernel_rfl) ?_
      refine EL.as' [(0, .int .i64 a995), (1, .int .i64 a996), (8, .bool (false))] (by simp only [dec_f h1048, Bool.not_true, Bool.not_false]) ?_
      refine EL.quick 4 [0, 1, 12] [(0, .int .i64 a995), (1, .int .i64 a996), (12, .bool (decide (a995 ≥ 16)))] (by kernel_rfl) ?_
      by_cases h1049 : a995 ≥ 16
      · rw [if_pos h1049] at H
        refine EL.keep [0, 1, 12] [(0, .int .i64 a995), (1, .int .i64 a996), (12, .bool (decide (a995 ≥ 16)))] (by kernel_rfl) ?_
        refine EL.as' [(0, .int .i64 a995), (1, .int .i64 a996), (12, .bool (true))] (by simp only [dec_t h1049, Bool.not_true, Bool.not_false]) ?_
        refine EL.quick 7 [0, 1, 19] [(0, .int .i64 a995), (1, .int .i64 a996), (19, .bool (true))] (by kernel_rfl) ?_
        refine EL.done (by kernel_rfl) ?_
        refine EQ.to ?_
        refine EQ.keep [0, 1, 19] [(0, .int .i64 a995), (1, .int .i64 a996), (19, .bool (true))] (by kernel_rfl) ?_
        exact fun a ha => ⟨true, ha, (hS.re [] [] rfl (sub_self)), H⟩
      · rw [if_neg h1049] at H
        refine EL.keep [0, 1, 12] [(0, .int .i64 a995), (1, .int .i64 a996), (12, .bool (decide (a995 ≥ 16)))] (by kernel_rfl) ?_
        refine EL.as' [(0, .int .i64 a995), (1, .int .i64 a996), (12, .bool (false))] (by simp only [dec_f h1049, Bool.not_true, Bool.not_false]) ?_
        refine EL.quick 4 [0, 1, 16] [(0, .int .i64 a995), (1, .int .i64 a996), (16, .bool (decide (a996 < 0)))] (by kernel_rfl) ?_
        by_cases h1050 : a996 < 0
        · rw [if_pos h1050] at H
          refine EL.keep [0, 1, 16] [(0, .int .i64 a995), (1, .int .i64 a996), (16, .bool (decide (a996 < 0)))] (by kernel_rfl) ?_
          refine EL.as' [(0, .int .i64 a995), (1, .int .i64 a996), (16, .bool (true))] (by simp only [dec_t h1050, Bool.not_true, Bool.not_false]) ?_
          refine EL.quick 3 [0, 1, 19] [(0, .int .i64 a995), (1, .int .i64 a996), (19, .bool (true))] (by kernel_rfl) ?_
          refine EL.done (by kernel_rfl) ?_
          refine EQ.to ?_
          refine EQ.keep [0, 1, 19] [(0, .int .i64 a995), (1, .int .i64 a996), (19, .bool (true))] (by kernel_rfl) ?_
          exact fun a ha => ⟨true, ha, (hS.re [] [] rfl (sub_self)), H⟩
        · rw [if_neg h1050] at H
          refine EL.keep [0, 1, 16] [(0, .int .i64 a995), (1, .int .i64 a996), (16, .bool (decide (a996 < 0)))] (by kernel_rfl) ?_
          refine EL.as' [(0, .int .i64 a995), (1, .int .i64 a996), (16, .bool (false))] (by simp only [dec_f h1050, Bool.not_true, Bool.not_false]) ?_
          refine EL.quick 3 [0, 1, 19] [(0, .int .i64 a995), (1, .int .i64 a996), (19, .bool (decide (a996 ≥ 65536)))] (by kernel_rfl) ?_
          refine EL.done (by kernel_rfl) ?_
          refine EQ.to ?_
          refine EQ.keep [0, 1, 19] [(0, .int .i64 a995), (1, .int .i64 a996), (19, .bool (decide (a996 ≥ 65536)))] (by kernel_rfl) ?_
          exact fun a ha => ⟨decide (a996 ≥ 65536), ha, (hS.re [] [] rfl (sub_self)), H⟩
  · obtain ⟨x1046, ha, hS, H⟩ := hI
    rw [hj1047] at H
    (try dsimp only at H)
    refine EW.at ?_ a ha
    clear ha a
    refine EW.condP' (o := (.tmp 19)) (x := Cd41.r.l.r.l) (y := Cd41.r.l.r.r) (x1046) (by kernel_rfl) (by kernel_rfl) (fun h1051 => ?_) (fun h1051 => ?_)
    · rw [if_pos h1051] at H
      refine EW.seq (x := Cd41.r.l.r.l.l) (y := Cd41.r.l.r.l.r) (by kernel_rfl) ?_
      refine EW.region (id := 2) (ops := Cd41.r.l.r.l.l.ops) (by kernel_rfl) ?_
      refine EL.quick 2 [4, 5] [(4, .int .i32 0), (5, .bool (false))] (by kernel_rfl) ?_
      refine EL.done (by kernel_rfl) ?_
      refine EQ.code ?_
      refine EW.ret (by kernel_rfl) ?_
      refine EQ.ret ?_
      simp only [Option.some.injEq, Prod.mk.injEq] at H
      obtain ⟨rfl, rfl⟩ := H
      exact EQ.leave (.tuple #[.int .i32 0, .bool (false)]) (by kernel_rfl) ⟨_, rfl, rfl, (hS.re [] [] rfl (sub_self))⟩
    · rw [if_neg h1051] at H
      refine EW.skip (by kernel_rfl) ?_
      refine EQ.code ?_
      refine EW.seq (x := Cd41.r.r.l) (y := Cd41.r.r.r) (by kernel_rfl) ?_
      refine EW.region (id := 3) (ops := Cd41.r.r.l.ops) (by kernel_rfl) ?_
      refine EL.quick 7 [4, 5] [(4, .int .i32 (IntKind.i32.wrap (IntKind.i64.wrap ((IntKind.i64.wrap (a995 * 65536)) + a996)))), (5, .bool (true))] (by kernel_rfl) ?_
      obtain ⟨y1052, hy1052, H⟩ := lt_out H
      refine EL.keep [4, 5] [(4, .int .i32 (IntKind.i32.wrap (IntKind.i64.wrap ((IntKind.i64.wrap (a995 * 65536)) + a996)))), (5, .bool (true))] (by kernel_rfl) ?_
      refine EL.as' [(4, .int .i32 y1052), (5, .bool (true))] (by subst hy1052; rfl) ?_
      refine EL.done (by kernel_rfl) ?_
      refine EQ.code ?_
      refine EW.ret (by kernel_rfl) ?_
      simp only [Option.some.injEq, Prod.mk.injEq] at H
      obtain ⟨rfl, rfl⟩ := H
      exact EQ.leave (.tuple #[.int .i32 y1052, .bool (true)]) (by kernel_rfl) ⟨_, rfl, rfl, (hS.re [] [] rfl (sub_self))⟩

/-! ### (*confidant/future.Futures).Make: function 13 -/
def future_Futures_Make.f (K : Nat) (l918 : List (List S96)) (l922 : List Int) (a926 : Int) (a927 : Int) : Option (List (List S96) × Int × Bool) := lt (fun (x1133 : Bool) => (if x1133 = true then (some (l918, 0, false)) else (if 0 ≤ a926 then (if a926 < (l918.length : Int) then (b2 (ident_Of.f K a926 ((l918.getD a926.toNat []).length : Int)) fun (t1162 : Int) (t1163 : Bool) => (lt ([(⟨a927, 0, 0, 0⟩ : S96)] : List S96) fun l1173 => (if ((l918.getD a926.toNat []).length + l1173.length) * 32 ≤ 140737488355328 then (lt ((l918.getD a926.toNat []) ++ l1173) fun l1175 => (lt (l918.set a926.toNat l1175) fun l1178 => (some (l1178, t1162, t1163)))) else none))) else none) else none))) fun j1134 => (if a926 < 0 then (j1134 true) else (if a926 ≥ (l918.length : Int) then (j1134 true) else (if 0 ≤ a926 then (if a926 < (l918.length : Int) then (if a926 < (l922.length : Int) then (j1134 (decide (((l918.getD a926.toNat []).length : Int) ≥ (l922.getD a926.toNat 0)))) else none) else none) else none)))
set_option maxRecDepth 100000 in
theorem future_Futures_Make.calls {K : Nat} {l918 : List (List S96)} {l922 : List Int} {a926 : Int} {a927 : Int} {g917 : Nat} {A919 : Option Addr} {C920 : Nat} {A923 : Option Addr} {C924 : Nat} {x1078 : List (List S96)} {x1081 : Int} {x1082 : Bool} {B w : World} {os : List Ass} {rs : List Ro} (H : future_Futures_Make.f K l918 l922 a926 a927 = some (x1078, x1081, x1082)) (hS : St B w (Ass.box 91 g917 [.slice A919 l918.length C920, .slice A923 l922.length C924] :: Ass.deep 94 96 kS96 A919 C920 l918 :: Ass.own 3 (Kd.int .i64) A923 C924 l922 :: os) (rs)) :
    Calls Try.prog 13 [.pointer (some ⟨g917, 0, none⟩), .int .i64 a926, .int .i64 a927].toArray w (fun en w' => ∃ v, en = .returned v ∧ ∃ A1079 : Option Addr, ∃ C1080 : Nat, v = .tuple #[.int .i32 x1081, .bool (x1082)] ∧ St B w' (Ass.box 91 g917 [.slice A1079 x1078.length C1080, .slice A923 l922.length C924] :: Ass.deep 94 96 kS96 A1079 C1080 x1078 :: Ass.own 3 (Kd.int .i64) A923 C924 l922 :: os) (rs)) := by
  unfold future_Futures_Make.f at H
  refine calls_of_EW (args := [.pointer (some ⟨g917, 0, none⟩), .int .i64 a926, .int .i64 a927]) (c := Cd13) 71 Try.func13 (by kernel_rfl) (by kernel_rfl) (by kernel_rfl) ?_
  refine EW.seq (x := Cd13.l) (y := Cd13.r) (by kernel_rfl) ?_
  refine EW.region (id := 0) (ops := Cd13.l.ops) (by kernel_rfl) ?_
  refine EL.quick 2 [0, 1, 2] [(0, .pointer (some ⟨g917, 0, none⟩)), (1, .int .i64 a926), (2, .int .i64 a927)] (by kernel_rfl) ?_
  refine EL.done (by kernel_rfl) ?_
  refine EQ.code ?_
  refine EW.seq (x := Cd13.r.l) (y := Cd13.r.r) (by kernel_rfl) ?_
  obtain ⟨j1134, hj1134, H⟩ := lt_out H
  refine EW.cut (x := Cd13.r.l.l) (y := Cd13.r.l.r) (fun a w => ∃ x1133 : Bool, Sat 71 [(0, .pointer (some ⟨g917, 0, none⟩)), (1, .int .i64 a926), (2, .int .i64 a927), (38, .bool (x1133))] a ∧ St B w (Ass.box 91 g917 [.slice A919 l918.length C920, .slice A923 l922.length C924] :: Ass.deep 94 96 kS96 A919 C920 l918 :: Ass.own 3 (Kd.int .i64) A923 C924 l922 :: os) (rs) ∧ j1134 x1133 = some (x1078, x1081, x1082)) (by kernel_rfl) ?_ (fun a w hI => ?_)
  · by_cases h1135 : a926 < 0
    · rw [if_pos h1135] at H
      have hS := hS.drew
      refine EW.draw (B := B) (id := 1) (ops := Cd13.r.l.l.ops) [Ass.box 91 g917 [.slice A919 l918.length C920, .slice A923 l922.length C924], Ass.deep 94 96 kS96 A919 C920 l918, Ass.own 3 (Kd.int .i64) A923 C924 l922] [] (by kernel_rfl) (by kernel_rfl) ?_
      have hN : Region.noSelect Cd13.r.l.l.ops = true := (by kernel_rfl)
      have hF : freeAll Cd13.r.l.l.ops = true := (by kernel_rfl)
      have hC : Core B [Ass.box 91 g917 [.slice A919 l918.length C920, .slice A923 l922.length C924], Ass.deep 94 96 kS96 A919 C920 l918, Ass.own 3 (Kd.int .i64) A923 C924 l922] [] _ := ⟨_, _, hS⟩
      refine ED.quick hN hF hC [0, 1, 2] [0, 1, 2, 12] 26 [(0, .pointer (some ⟨g917, 0, none⟩)), (1, .int .i64 a926), (2, .int .i64 a927), (12, .bool (decide (a926 < 0)))] #[true, true, true, false, false, false, false, false, false, false, false, false, false, false, false, false, false, false, false, false, false, false, false, false, false, false, false, false, false] (by kernel_rfl) (by kernel_rfl) ?_
      refine ED.keep [0, 1, 2, 12] [(0, .pointer (some ⟨g917, 0, none⟩)), (1, .int .i64 a926), (2, .int .i64 a927), (12, .bool (decide (a926 < 0)))] (by kernel_rfl) ?_
      refine ED.as' [(0, .pointer (some ⟨g917, 0, none⟩)), (1, .int .i64 a926), (2, .int .i64 a927), (12, .bool (true))] (by simp only [dec_t h1135, Bool.not_true, Bool.not_false]) ?_
      refine ED.quick hN hF hC [3, 4, 5, 6, 7, 8, 9, 10, 11, 12, 13, 14, 15, 16, 17, 18, 19, 20, 21, 22, 23, 24, 25, 26, 27, 28] [0, 1, 2, 38] 0 [(0, .pointer (some ⟨g917, 0, none⟩)), (1, .int .i64 a926), (2, .int .i64 a927), (38, .bool (true))] #[true, true, true, true, true, true, true, true, true, true, true, true, true, true, true, true, true, true, true, true, true, true, true, true, true, true, true, true, true] (by kernel_rfl) (by kernel_rfl) ?_
      refine ED.done (by kernel_rfl) ?_
      refine EQ.to ?_
      refine EQ.keep [0, 1, 2, 38] [(0, .pointer (some ⟨g917, 0, none⟩)), (1, .int .i64 a926), (2, .int .i64 a927), (38, .bool (true))] (by kernel_rfl) ?_
      exact fun a ha => ⟨true, ha, (hS.re [2, 2, 2] [] rfl (sub_self)), H⟩
    · rw [if_neg h1135] at H
      by_cases h1136 : a926 ≥ (l918.length : Int)
      · rw [if_pos h1136] at H
        have hS := hS.drew
        refine EW.draw (B := B) (id := 1) (ops := Cd13.r.l.l.ops) [Ass.box 91 g917 [.slice A919 l918.length C920, .slice A923 l922.length C924], Ass.deep 94 96 kS96 A919 C920 l918, Ass.own 3 (Kd.int .i64) A923 C924 l922] [] (by kernel_rfl) (by kernel_rfl) ?_
        have hN : Region.noSelect Cd13.r.l.l.ops = true := (by kernel_rfl)
        have hF : freeAll Cd13.r.l.l.ops = true := (by kernel_rfl)
        have hC : Core B [Ass.box 91 g917 [.slice A919 l918.length C920, .slice A923 l922.length C924], Ass.deep 94 96 kS96 A919 C920 l918, Ass.own 3 (Kd.int .i64) A923 C924 l922] [] _ := ⟨_, _, hS⟩
        refine ED.quick hN hF hC [0, 1, 2] [0, 1, 2, 12] 26 [(0, .pointer (some ⟨g917, 0, none⟩)), (1, .int .i64 a926), (2, .int .i64 a927), (12, .bool (decide (a926 < 0)))] #[true, true, true, false, false, false, false, false, false, false, false, false, false, false, false, false, false, false, false, false, false, false, false, false, false, false, false, false, false] (by kernel_rfl) (by kernel_rfl) ?_
        refine ED.keep [0, 1, 2, 12] [(0, .pointer (some ⟨g917, 0, none⟩)), (1, .int .i64 a926), (2, .int .i64 a927), (12, .bool (decide (a926 < 0)))] (by kernel_rfl) ?_
        refine ED.as' [(0, .pointer (some ⟨g917, 0, none⟩)), (1, .int .i64 a926), (2, .int .i64 a927), (12, .bool (false))] (by simp only [dec_f h1135, Bool.not_true, Bool.not_false]) ?_
        refine ED.quick hN hF hC [3, 4, 5, 6] [0, 1, 2, 12, 13, 16] 22 [(0, .pointer (some ⟨g917, 0, none⟩)), (1, .int .i64 a926), (2, .int .i64 a927), (12, .bool (false)), (13, .int .i64 a926), (16, .pointer (some ⟨g917, 0, none⟩))] #[true, true, true, true, true, true, true, false, false, false, false, false, false, false, false, false, false, false, false, false, false, false, false, false, false, false, false, false, false] (by kernel_rfl) (by kernel_rfl) ?_
        refine ED.Y hN hF hC 7 21 #[true, true, true, true, true, true, true, true, false, false, false, false, false, false, false, false, false, false, false, false, false, false, false, false, false, false, false, false, false] (by kernel_rfl) (by kernel_rfl) rfl (fun _ _ _ hS => YO.loadBox hS 0 rfl 89 0 1 (.slice A919 l918.length C920) 17 (by kernel_rfl) (by kernel_rfl) (by kernel_rfl) (by kernel_rfl)) ?_
        refine ED.quick hN hF hC [8, 9, 10, 11] [0, 1, 2, 21] 17 [(0, .pointer (some ⟨g917, 0, none⟩)), (1, .int .i64 a926), (2, .int .i64 a927), (21, .bool (decide (a926 ≥ (l918.length : Int))))] #[true, true, true, true, true, true, true, true, true, true, true, true, false, false, false, false, false, false, false, false, false, false, false, false, false, false, false, false, false] (by kernel_rfl) (by kernel_rfl) ?_
        refine ED.keep [0, 1, 2, 21] [(0, .pointer (some ⟨g917, 0, none⟩)), (1, .int .i64 a926), (2, .int .i64 a927), (21, .bool (decide (a926 ≥ (l918.length : Int))))] (by kernel_rfl) ?_
        refine ED.as' [(0, .pointer (some ⟨g917, 0, none⟩)), (1, .int .i64 a926), (2, .int .i64 a927), (21, .bool (true))] (by simp only [dec_t h1136, Bool.not_true, Bool.not_false]) ?_
        refine ED.quick hN hF hC [12, 13, 14, 15, 16, 17, 18, 19, 20, 21, 22, 23, 24, 25, 26, 27, 28] [0, 1, 2, 38] 0 [(0, .pointer (some ⟨g917, 0, none⟩)), (1, .int .i64 a926), (2, .int .i64 a927), (38, .bool (true))] #[true, true, true, true, true, true, true, true, true, true, true, true, true, true, true, true, true, true, true, true, true, true, true, true, true, true, true, true, true] (by kernel_rfl) (by kernel_rfl) ?_
        refine ED.done (by kernel_rfl) ?_
        refine EQ.to ?_
        refine EQ.keep [0, 1, 2, 38] [(0, .pointer (some ⟨g917, 0, none⟩)), (1, .int .i64 a926), (2, .int .i64 a927), (38, .bool (true))] (by kernel_rfl) ?_
        exact fun a ha => ⟨true, ha, (hS.re [2, 2, 2] [] rfl (sub_self)), H⟩
      · rw [if_neg h1136] at H
        obtain ⟨h1137, H⟩ := ite_in H
        obtain ⟨h1138, H⟩ := ite_in H
        obtain ⟨ad1139, rfl⟩ := St.deep_some hS 1 rfl h1137 h1138
        obtain ⟨h1142, H⟩ := ite_in H
        obtain ⟨ad1143, rfl⟩ := St.rd_some hS (Rd.own 2 3 rfl) h1137 h1142
        have hS := hS.drew
        refine EW.draw (B := B) (id := 1) (ops := Cd13.r.l.l.ops) [Ass.box 91 g917 [.slice (some ad1139) l918.length C920, .slice (some ad1143) l922.length C924], Ass.own 3 (Kd.int .i64) (some ad1143) C924 l922] [] (by kernel_rfl) (by kernel_rfl) ?_
        have hN : Region.noSelect Cd13.r.l.l.ops = true := (by kernel_rfl)
        have hF : freeAll Cd13.r.l.l.ops = true := (by kernel_rfl)
        have hC : Core B [Ass.box 91 g917 [.slice (some ad1139) l918.length C920, .slice (some ad1143) l922.length C924], Ass.own 3 (Kd.int .i64) (some ad1143) C924 l922] [] _ := ⟨_, _, hS.re [2, 1] [] rfl sub_self⟩
        refine ED.quick hN hF hC [0, 1, 2] [0, 1, 2, 12] 26 [(0, .pointer (some ⟨g917, 0, none⟩)), (1, .int .i64 a926), (2, .int .i64 a927), (12, .bool (decide (a926 < 0)))] #[true, true, true, false, false, false, false, false, false, false, false, false, false, false, false, false, false, false, false, false, false, false, false, false, false, false, false, false, false] (by kernel_rfl) (by kernel_rfl) ?_
        refine ED.keep [0, 1, 2, 12] [(0, .pointer (some ⟨g917, 0, none⟩)), (1, .int .i64 a926), (2, .int .i64 a927), (12, .bool (decide (a926 < 0)))] (by kernel_rfl) ?_
        refine ED.as' [(0, .pointer (some ⟨g917, 0, none⟩)), (1, .int .i64 a926), (2, .int .i64 a927), (12, .bool (false))] (by simp only [dec_f h1135, Bool.not_true, Bool.not_false]) ?_
        refine ED.quick hN hF hC [3, 4, 5, 6] [0, 1, 2, 12, 13, 16] 22 [(0, .pointer (some ⟨g917, 0, none⟩)), (1, .int .i64 a926), (2, .int .i64 a927), (12, .bool (false)), (13, .int .i64 a926), (16, .pointer (some ⟨g917, 0, none⟩))] #[true, true, true, true, true, true, true, false, false, false, false, false, false, false, false, false, false, false, false, false, false, false, false, false, false, false, false, false, false] (by kernel_rfl) (by kernel_rfl) ?_
        refine ED.Y hN hF hC 7 21 #[true, true, true, true, true, true, true, true, false, false, false, false, false, false, false, false, false, false, false, false, false, false, false, false, false, false, false, false, false] (by kernel_rfl) (by kernel_rfl) rfl (fun _ _ _ hS => YO.loadBox hS 0 rfl 89 0 1 (.slice (some ad1139) l918.length C920) 17 (by kernel_rfl) (by kernel_rfl) (by kernel_rfl) (by kernel_rfl)) ?_
        refine ED.quick hN hF hC [8, 9, 10, 11] [0, 1, 2, 21] 17 [(0, .pointer (some ⟨g917, 0, none⟩)), (1, .int .i64 a926), (2, .int .i64 a927), (21, .bool (decide (a926 ≥ (l918.length : Int))))] #[true, true, true, true, true, true, true, true, true, true, true, true, false, false, false, false, false, false, false, false, false, false, false, false, false, false, false, false, false] (by kernel_rfl) (by kernel_rfl) ?_
        refine ED.keep [0, 1, 2, 21] [(0, .pointer (some ⟨g917, 0, none⟩)), (1, .int .i64 a926), (2, .int .i64 a927), (21, .bool (decide (a926 ≥ (l918.length : Int))))] (by kernel_rfl) ?_
        refine ED.as' [(0, .pointer (some ⟨g917, 0, none⟩)), (1, .int .i64 a926), (2, .int .i64 a927), (21, .bool (false))] (by simp only [dec_f h1136, Bool.not_true, Bool.not_false]) ?_
        refine ED.quick hN hF hC [12, 13, 14, 16, 20, 21, 22, 24] [0, 1, 2, 21, 24, 26, 32, 34] 9 [(0, .pointer (some ⟨g917, 0, none⟩)), (1, .int .i64 a926), (2, .int .i64 a927), (21, .bool (false)), (24, .pointer (some ⟨g917, 0, none⟩)), (26, .int .i64 a926), (32, .pointer (some ⟨g917, 1, none⟩)), (34, .int .i64 a926)] #[true, true, true, true, true, true, true, true, true, true, true, true, true, true, true, false, true, false, false, false, true, true, true, false, true, false, false, false, false] (by kernel_rfl) (by kernel_rfl) ?_
        refine ED.Y hN hF hC 15 8 #[true, true, true, true, true, true, true, true, true, true, true, true, true, true, true, true, true, false, false, false, true, true, true, false, true, false, false, false, false] (by kernel_rfl) (by kernel_rfl) rfl (fun _ _ _ hS => YO.loadBox hS 0 rfl 89 0 1 (.slice (some ad1139) l918.length C920) 25 (by kernel_rfl) (by kernel_rfl) (by kernel_rfl) (by kernel_rfl)) ?_
        refine ED.Y hN hF hC 17 7 #[true, true, true, true, true, true, true, true, true, true, true, true, true, true, true, true, true, true, false, false, true, true, true, false, true, false, false, false, false] (by kernel_rfl) (by kernel_rfl) rfl (fun _ _ _ hS => YO.idx 89 1 ad1139 l918.length C920 .i64 a926 27 (by kernel_rfl) (by kernel_rfl) (by kernel_rfl) (by kernel_rfl) h1137 h1138) ?_
        refine ED.Y hN hF hC 23 6 #[true, true, true, true, true, true, true, true, true, true, true, true, true, true, true, true, true, true, false, false, true, true, true, true, true, false, false, false, false] (by kernel_rfl) (by kernel_rfl) rfl (fun _ _ _ hS => YO.loadBox hS 0 rfl 66 1 1 (.slice (some ad1143) l922.length C924) 33 (by kernel_rfl) (by kernel_rfl) (by kernel_rfl) (by kernel_rfl)) ?_
        refine ED.Y hN hF hC 25 5 #[true, true, true, true, true, true, true, true, true, true, true, true, true, true, true, true, true, true, false, false, true, true, true, true, true, true, false, false, false] (by kernel_rfl) (by kernel_rfl) rfl (fun _ _ _ hS => YO.idx 66 1 ad1143 l922.length C924 .i64 a926 35 (by kernel_rfl) (by kernel_rfl) (by kernel_rfl) (by kernel_rfl) h1137 h1142) ?_
        refine ED.Y hN hF hC 26 4 #[true, true, true, true, true, true, true, true, true, true, true, true, true, true, true, true, true, true, false, false, true, true, true, true, true, true, true, false, false] (by kernel_rfl) (by kernel_rfl) rfl (fun _ _ _ hS => YO.loadEl hS (Kd.int .i64) ad1143 C924 l922 (Rd.own 1 3 rfl) 0 (encI .i64) encI_of a926 h1137 h1142 3 1 0 1 rfl (.int .i64 (l922.getD a926.toNat 0)) 36 (by kernel_rfl) (by kernel_rfl) (by kernel_rfl) (by kernel_rfl)) ?_
        refine ED.one 18 3 #[true, true, true, true, true, true, true, true, true, true, true, true, true, true, true, true, true, true, true, false, true, true, true, true, true, true, true, false, false] (by kernel_rfl) (by kernel_rfl) (by kernel_rfl) (EO.openEl hS 1 ad1139 rfl a926 h1137 h1138 (fun A1146 C1147 => Ass.box 91 g917 [.slice (some ad1139) l918.length C920, .slice (some ad1143) l922.length C924] :: Ass.holed 94 96 kS96 (some ad1139) C920 l918 a926.toNat (A1146, (l918.getD a926.toNat []).length, C1147) :: Ass.own 3 (Kd.int .i64) (some ad1143) C924 l922 :: os) 94 28 (by kernel_rfl) (by kernel_rfl) (by kernel_rfl) (by kernel_rfl) (fun _ _ => rfl) ?_)
        intro A1146 C1147 hS
        have hC : Core B [Ass.box 91 g917 [.slice (some ad1139) l918.length C920, .slice (some ad1143) l922.length C924], Ass.own 3 (Kd.int .i64) (some ad1143) C924 l922] [] _ := ⟨_, _, hS.re [3, 2] [] rfl sub_self⟩
        refine ⟨hC, ?_⟩
        refine ED.quick hN hF hC [19, 27, 28] [0, 1, 2, 38] 0 [(0, .pointer (some ⟨g917, 0, none⟩)), (1, .int .i64 a926), (2, .int .i64 a927), (38, .bool (decide (((l918.getD a926.toNat []).length : Int) ≥ (l922.getD a926.toNat 0))))] #[true, true, true, true, true, true, true, true, true, true, true, true, true, true, true, true, true, true, true, true, true, true, true, true, true, true, true, true, true] (by kernel_rfl) (by kernel_rfl) ?_
        refine ED.done (by kernel_rfl) ?_
        refine EQ.to ?_
        have hS := St.as (os' := Ass.box 91 g917 [.slice (some ad1139) l918.length C920, .slice (some ad1143) l922.length C924] :: Ass.deep 94 96 kS96 (some ad1139) C920 l918 :: Ass.own 3 (Kd.int .i64) (some ad1143) C924 l922 :: os) (St.close hS 0 1 rfl rfl rfl l918 (set_getD _ _)) rfl
        refine EQ.keep [0, 1, 2, 38] [(0, .pointer (some ⟨g917, 0, none⟩)), (1, .int .i64 a926), (2, .int .i64 a927), (38, .bool (decide (((l918.getD a926.toNat []).length : Int) ≥ (l922.getD a926.toNat 0))))] (by kernel_rfl) ?_
        exact fun a ha => ⟨decide (((l918.getD a926.toNat []).length : Int) ≥ (l922.getD a926.toNat 0)), ha, (hS.re [2, 2, 2] [] rfl (sub_self)), H⟩
  · obtain ⟨x1133, ha, hS, H⟩ := hI
    rw [hj1134] at H
    (try dsimp only at H)
    refine EW.at ?_ a ha
    clear ha a
    refine EW.condP' (o := (.tmp 38)) (x := Cd13.r.l.r.l) (y := Cd13.r.l.r.r) (x1133) (by kernel_rfl) (by kernel_rfl) (fun h1148 => ?_) (fun h1148 => ?_)
    · rw [if_pos h1148] at H
      refine EW.seq (x := Cd13.r.l.r.l.l) (y := Cd13.r.l.r.l.r) (by kernel_rfl) ?_
      refine EW.region (id := 2) (ops := Cd13.r.l.r.l.l.ops) (by kernel_rfl) ?_
      refine EL.quick 2 [6, 7] [(6, .int .i32 0), (7, .bool (false))] (by kernel_rfl) ?_
      refine EL.done (by kernel_rfl) ?_
      refine EQ.code ?_
      refine EW.ret (by kernel_rfl) ?_
      refine EQ.ret ?_
      simp only [Option.some.injEq, Prod.mk.injEq] at H
      obtain ⟨rfl, rfl, rfl⟩ := H
      exact EQ.leave (.tuple #[.int .i32 0, .bool (false)]) (by kernel_rfl) ⟨_, rfl, A919, C920, rfl, (hS.re [2, 2, 2] [] rfl (sub_self))⟩
    · rw [if_neg h1148] at H
      refine EW.skip (by kernel_rfl) ?_
      refine EQ.code ?_
      refine EW.seq (x := Cd13.r.r.l) (y := Cd13.r.r.r) (by kernel_rfl) ?_
      refine EW.region (id := 3) (ops := Cd13.r.r.l.ops) (by kernel_rfl) ?_
      refine EL.quick 4 [0, 1, 2, 40, 43] [(0, .pointer (some ⟨g917, 0, none⟩)), (1, .int .i64 a926), (2, .int .i64 a927), (40, .int .i64 a926), (43, .pointer (some ⟨g917, 0, none⟩))] (by kernel_rfl) ?_
      refine EL.of (EO.Y (YO.loadBox hS 0 rfl 89 0 1 (.slice A919 l918.length C920) 44 (by kernel_rfl) (by kernel_rfl) (by kernel_rfl) (by kernel_rfl)) ?_)
      refine EL.quick 1 [0, 1, 2, 40, 44, 45] [(0, .pointer (some ⟨g917, 0, none⟩)), (1, .int .i64 a926), (2, .int .i64 a927), (40, .int .i64 a926), (44, .slice A919 l918.length C920), (45, .int .i64 a926)] (by kernel_rfl) ?_
      obtain ⟨h1157, H⟩ := ite_in H
      obtain ⟨h1158, H⟩ := ite_in H
      obtain ⟨ad1159, rfl⟩ := St.deep_some hS 1 rfl h1157 h1158
      refine EL.of (EO.Y (YO.idx 89 1 ad1159 l918.length C920 .i64 a926 46 (by kernel_rfl) (by kernel_rfl) (by kernel_rfl) (by kernel_rfl) h1157 h1158) ?_)
      refine EL.of (EO.openEl hS 1 ad1159 rfl a926 h1157 h1158 (fun A1160 C1161 => Ass.box 91 g917 [.slice (some ad1159) l918.length C920, .slice A923 l922.length C924] :: Ass.holed 94 96 kS96 (some ad1159) C920 l918 a926.toNat (A1160, (l918.getD a926.toNat []).length, C1161) :: Ass.own 3 (Kd.int .i64) A923 C924 l922 :: os) 94 47 (by kernel_rfl) (by kernel_rfl) (by kernel_rfl) (by kernel_rfl) (fun _ _ => rfl) ?_)
      intro A1160 C1161 hS
      refine EL.quick 1 [0, 1, 2, 40, 48] [(0, .pointer (some ⟨g917, 0, none⟩)), (1, .int .i64 a926), (2, .int .i64 a927), (40, .int .i64 a926), (48, .int .i64 ((l918.getD a926.toNat []).length : Int))] (by kernel_rfl) ?_
      obtain ⟨t1162, t1163, hc1164, H⟩ := b2_out H
      refine EL.of (EO.callD 41 [.int .i64 a926, .int .i64 ((l918.getD a926.toNat []).length : Int)] _ 49 (by kernel_rfl) (by kernel_rfl) (by kernel_rfl) (ident_Of.calls hc1164 hS) ?_)
      rintro v w ⟨rfl, hS⟩
      refine EL.quick 5 [0, 1, 2, 8, 9] [(0, .pointer (some ⟨g917, 0, none⟩)), (1, .int .i64 a926), (2, .int .i64 a927), (8, .int .i32 t1162), (9, .bool (t1163))] (by kernel_rfl) ?_
      refine EL.done (by kernel_rfl) ?_
      refine EQ.code ?_
      refine EW.seq (x := Cd13.r.r.r.l) (y := Cd13.r.r.r.r) (by kernel_rfl) ?_
      obtain ⟨l1173, hl1173, H⟩ := lt_out H
      obtain ⟨h1174, H⟩ := ite_in H
      obtain ⟨l1175, hl1175, H⟩ := lt_out H
      obtain ⟨l1178, hl1178, H⟩ := lt_out H
      refine EW.meet (id := 4) (ops := Cd13.r.r.r.l.ops) (fun a w => ∃ A1218 : Option Addr, ∃ C1219 : Nat, Sat 71 [(8, .int .i32 t1162), (9, .bool (t1163))] a ∧ St B w (Ass.own 96 kS96 A1218 C1219 l1173 :: Ass.box 91 g917 [.slice (some ad1159) l1178.length C920, .slice A923 l922.length C924] :: Ass.deep 94 96 kS96 (some ad1159) C920 l1178 :: Ass.own 3 (Kd.int .i64) A923 C924 l922 :: os) (rs)) (by kernel_rfl) ?_ (fun a w hI => ?_)
      · have hS := hS.drew
        refine EW.draw (B := B) (id := 4) (ops := Cd13.r.r.r.l.ops) [Ass.own 3 (Kd.int .i64) A923 C924 l922] [] (by kernel_rfl) (by kernel_rfl) ?_
        have hN : Region.noSelect Cd13.r.r.r.l.ops = true := (by kernel_rfl)
        have hF : freeAll Cd13.r.r.r.l.ops = true := (by kernel_rfl)
        have hC : Core B [Ass.own 3 (Kd.int .i64) A923 C924 l922] [] _ := ⟨_, _, hS.re [3] [] rfl sub_self⟩
        refine ED.quick hN hF hC [0, 1, 2, 4, 5, 6, 7, 9, 12, 13] [8, 9, 54, 56, 59, 61, 65] 8 [(8, .int .i32 t1162), (9, .bool (t1163)), (54, .pointer (some ⟨g917, 0, none⟩)), (56, .int .i64 a926), (59, .pointer (some ⟨g917, 0, none⟩)), (61, .int .i64 a926), (65, .agg #[.int .i64 a927, .int .i64 0, .int .i32 0, .int .i64 0])] #[true, true, true, false, true, true, true, true, false, true, false, false, true, true, false, false, false, false] (by kernel_rfl) (by kernel_rfl) ?_
        refine ED.many 3 [8, 14] 7 (by kernel_rfl) (by kernel_rfl) (Each.cons ?_ (Each.cons ?_ (Each.cons ?_ Each.nil)))
        · refine EO.Y (YO.loadBox hS 1 rfl 89 0 1 (.slice (some ad1159) l918.length C920) 55 (by kernel_rfl) (by kernel_rfl) (by kernel_rfl) (by kernel_rfl)) ?_
          have hC : Core B [Ass.own 3 (Kd.int .i64) A923 C924 l922] [] _ := ⟨_, _, hS.re [3] [] rfl sub_self⟩
          refine ⟨hC, ?_⟩
          refine ED.at' #[true, true, true, true, true, true, true, true, false, true, false, false, true, true, false, false, false, false] (by kernel_rfl) ?_
          refine ED.two 8 14 6 (by kernel_rfl) (by kernel_rfl) ?_ ?_
          · refine EO.Y (YO.loadBox hS 1 rfl 89 0 1 (.slice (some ad1159) l918.length C920) 60 (by kernel_rfl) (by kernel_rfl) (by kernel_rfl) (by kernel_rfl)) ?_
            have hC : Core B [Ass.own 3 (Kd.int .i64) A923 C924 l922] [] _ := ⟨_, _, hS.re [3] [] rfl sub_self⟩
            refine ⟨hC, ?_⟩
            refine ED.at' #[true, true, true, true, true, true, true, true, true, true, false, false, true, true, false, false, false, false] (by kernel_rfl) ?_
            refine ED.Y hN hF hC 10 5 #[true, true, true, true, true, true, true, true, true, true, true, false, true, true, false, false, false, false] (by kernel_rfl) (by kernel_rfl) rfl (fun _ _ _ hS => YO.idx 89 1 ad1159 l918.length C920 .i64 a926 62 (by kernel_rfl) (by kernel_rfl) (by kernel_rfl) (by kernel_rfl) h1157 h1158) ?_
            refine ED.two 11 14 4 (by kernel_rfl) (by kernel_rfl) ?_ ?_
            · refine EO.Y (YO.loadHole hS 2 ad1159 (j := a926) rfl h1157 94 63 (by kernel_rfl) (by kernel_rfl) (by kernel_rfl) (by kernel_rfl)) ?_
              have hC : Core B [Ass.own 3 (Kd.int .i64) A923 C924 l922] [] _ := ⟨_, _, hS.re [3] [] rfl sub_self⟩
              refine ⟨hC, ?_⟩
              refine ED.at' #[true, true, true, true, true, true, true, true, true, true, true, true, true, true, false, false, false, false] (by kernel_rfl) ?_
              refine ED.one 14 3 #[true, true, true, true, true, true, true, true, true, true, true, true, true, true, true, false, false, false] (by kernel_rfl) (by kernel_rfl) (by kernel_rfl) (EO.lit hS kS96 96 94 1 #[(0, .agg #[.int .i64 a927, .int .i64 0, .int .i32 0, .int .i64 0])] [.int .i64 a927, .int .i64 0, .int .i32 0, .int .i64 0] l1173 66 (by kernel_rfl) (by kernel_rfl) (by kernel_rfl) (fun _ => (by kernel_rfl)) (by rw [hl1173]; rfl) (by kernel_rfl) (fun w G hr => (by rw [hl1173]; exact ⟨[.int .i64 a927, .int .i64 0, .int .i32 0, .int .i64 0], [], rfl, ⟨[.int .i64 a927], [.int .i64 0, .int .i32 0, .int .i64 0], rfl, rfl, ⟨[.int .i64 0], [.int .i32 0, .int .i64 0], rfl, rfl, ⟨[.int .i32 0], [.int .i64 0], rfl, rfl, ⟨[.int .i64 0], [], rfl, rfl, rfl⟩⟩⟩⟩, rfl⟩)) ?_)
              intro g1220 w hS
              have hC : Core B [Ass.own 3 (Kd.int .i64) A923 C924 l922] [] _ := ⟨_, _, hS.re [4] [] rfl sub_self⟩
              refine ⟨hC, ?_⟩
              refine ED.one 15 2 #[true, true, true, true, true, true, true, true, true, true, true, true, true, true, true, true, false, false] (by kernel_rfl) (by kernel_rfl) (by kernel_rfl) (EO.append hS 94 94 96 32 1 kS96 A1160 C1161 (l918.getD a926.toNat []) rfl (some ⟨g1220, 0, none⟩) 1 l1173 (Rd.own 0 96 rfl) l1175 hl1175 (fun A1221 C1222 => Ass.own 96 kS96 (some ⟨g1220, 0, none⟩) 1 l1173 :: Ass.own 96 kS96 A1221 C1222 l1175 :: Ass.box 91 g917 [.slice (some ad1159) l918.length C920, .slice A923 l922.length C924] :: Ass.holed 94 96 kS96 (some ad1159) C920 l918 a926.toNat (A1160, (l918.getD a926.toNat []).length, C1161) :: Ass.own 3 (Kd.int .i64) A923 C924 l922 :: os) 67 (by kernel_rfl) (by kernel_rfl) (by kernel_rfl) (by kernel_rfl) h1174 (fun _ _ => rfl) ?_)
              intro A1221 C1222 w hS
              have hC : Core B [Ass.own 3 (Kd.int .i64) A923 C924 l922] [] _ := ⟨_, _, hS.re [4] [] rfl sub_self⟩
              refine ⟨hC, ?_⟩
              refine ED.Y hN hF hC 16 1 #[true, true, true, true, true, true, true, true, true, true, true, true, true, true, true, true, true, false] (by kernel_rfl) (by kernel_rfl) rfl (fun _ _ _ hS => YO.idx 89 1 ad1159 l918.length C920 .i64 a926 68 (by kernel_rfl) (by kernel_rfl) (by kernel_rfl) (by kernel_rfl) h1157 h1158) ?_
              refine ED.one 17 0 #[true, true, true, true, true, true, true, true, true, true, true, true, true, true, true, true, true, true] (by kernel_rfl) (by kernel_rfl) (by kernel_rfl) (EO.closeEl hS 1 2 ad1159 a926 rfl rfl h1157 l1178 hl1178 (Ass.own 96 kS96 (some ⟨g1220, 0, none⟩) 1 l1173 :: Ass.box 91 g917 [.slice (some ad1159) l918.length C920, .slice A923 l922.length C924] :: Ass.deep 94 96 kS96 (some ad1159) C920 l1178 :: Ass.own 3 (Kd.int .i64) A923 C924 l922 :: os) 94 (by kernel_rfl) (by kernel_rfl) (by kernel_rfl) (by kernel_rfl) rfl ?_)
              intro w hS
              have hS : St B w (Ass.own 96 kS96 (some ⟨g1220, 0, none⟩) 1 l1173 :: Ass.box 91 g917 [.slice (some ad1159) l1178.length C920, .slice A923 l922.length C924] :: Ass.deep 94 96 kS96 (some ad1159) C920 l1178 :: Ass.own 3 (Kd.int .i64) A923 C924 l922 :: os) (rs) := by simpa only [hl1178, List.length_set] using hS
              have hC : Core B [Ass.own 3 (Kd.int .i64) A923 C924 l922] [] _ := ⟨_, _, hS.re [3] [] rfl sub_self⟩
              refine ⟨hC, ?_⟩
              refine ED.keep [8, 9, 54, 55, 56, 59, 60, 61, 62, 65, 66, 68] [(8, .int .i32 t1162), (9, .bool (t1163)), (54, .pointer (some ⟨g917, 0, none⟩)), (55, .slice (some ad1159) l918.length C920), (56, .int .i64 a926), (59, .pointer (some ⟨g917, 0, none⟩)), (60, .slice (some ad1159) l918.length C920), (61, .int .i64 a926), (62, .pointer (some ((ad1159.add (a926.toNat * 1)).add 0))), (65, .agg #[.int .i64 a927, .int .i64 0, .int .i32 0, .int .i64 0]), (66, .slice (some ⟨g1220, 0, none⟩) l1173.length 1), (68, .pointer (some ((ad1159.add (a926.toNat * 1)).add 0)))] (by kernel_rfl) ?_
              refine ED.as' [(8, .int .i32 t1162), (9, .bool (t1163)), (54, .pointer (some ⟨g917, 0, none⟩)), (55, .slice (some ad1159) l1178.length C920), (56, .int .i64 a926), (59, .pointer (some ⟨g917, 0, none⟩)), (60, .slice (some ad1159) l1178.length C920), (61, .int .i64 a926), (62, .pointer (some ((ad1159.add (a926.toNat * 1)).add 0))), (65, .agg #[.int .i64 a927, .int .i64 0, .int .i32 0, .int .i64 0]), (66, .slice (some ⟨g1220, 0, none⟩) l1173.length 1), (68, .pointer (some ((ad1159.add (a926.toNat * 1)).add 0)))] (by simp only [hl1178, List.length_set]) ?_
              refine ED.done (by kernel_rfl) ?_
              refine EQ.to ?_
              refine EQ.keep [8, 9] [(8, .int .i32 t1162), (9, .bool (t1163))] (by kernel_rfl) ?_
              exact fun a ha => ⟨(some ⟨g1220, 0, none⟩), 1, ha, (hS.re [3, 3, 3, 3] [] rfl (sub_self))⟩
            · refine EO.lit hS kS96 96 94 1 #[(0, .agg #[.int .i64 a927, .int .i64 0, .int .i32 0, .int .i64 0])] [.int .i64 a927, .int .i64 0, .int .i32 0, .int .i64 0] l1173 66 (by kernel_rfl) (by kernel_rfl) (by kernel_rfl) (fun _ => (by kernel_rfl)) (by rw [hl1173]; rfl) (by kernel_rfl) (fun w G hr => (by rw [hl1173]; exact ⟨[.int .i64 a927, .int .i64 0, .int .i32 0, .int .i64 0], [], rfl, ⟨[.int .i64 a927], [.int .i64 0, .int .i32 0, .int .i64 0], rfl, rfl, ⟨[.int .i64 0], [.int .i32 0, .int .i64 0], rfl, rfl, ⟨[.int .i32 0], [.int .i64 0], rfl, rfl, ⟨[.int .i64 0], [], rfl, rfl, rfl⟩⟩⟩⟩, rfl⟩)) ?_
              intro g1223 w hS
              have hC : Core B [Ass.own 3 (Kd.int .i64) A923 C924 l922] [] _ := ⟨_, _, hS.re [4] [] rfl sub_self⟩
              refine ⟨hC, ?_⟩
              refine ED.at' #[true, true, true, true, true, true, true, true, true, true, true, false, true, true, true, false, false, false] (by kernel_rfl) ?_
              refine ED.one 11 3 #[true, true, true, true, true, true, true, true, true, true, true, true, true, true, true, false, false, false] (by kernel_rfl) (by kernel_rfl) (by kernel_rfl) (EO.Y (YO.loadHole hS 3 ad1159 (j := a926) rfl h1157 94 63 (by kernel_rfl) (by kernel_rfl) (by kernel_rfl) (by kernel_rfl)) ?_)
              have hC : Core B [Ass.own 3 (Kd.int .i64) A923 C924 l922] [] _ := ⟨_, _, hS.re [4] [] rfl sub_self⟩
              refine ⟨hC, ?_⟩
              refine ED.one 15 2 #[true, true, true, true, true, true, true, true, true, true, true, true, true, true, true, true, false, false] (by kernel_rfl) (by kernel_rfl) (by kernel_rfl) (EO.append hS 94 94 96 32 1 kS96 A1160 C1161 (l918.getD a926.toNat []) rfl (some ⟨g1223, 0, none⟩) 1 l1173 (Rd.own 0 96 rfl) l1175 hl1175 (fun A1224 C1225 => Ass.own 96 kS96 (some ⟨g1223, 0, none⟩) 1 l1173 :: Ass.own 96 kS96 A1224 C1225 l1175 :: Ass.box 91 g917 [.slice (some ad1159) l918.length C920, .slice A923 l922.length C924] :: Ass.holed 94 96 kS96 (some ad1159) C920 l918 a926.toNat (A1160, (l918.getD a926.toNat []).length, C1161) :: Ass.own 3 (Kd.int .i64) A923 C924 l922 :: os) 67 (by kernel_rfl) (by kernel_rfl) (by kernel_rfl) (by kernel_rfl) h1174 (fun _ _ => rfl) ?_)
              intro A1224 C1225 w hS
              have hC : Core B [Ass.own 3 (Kd.int .i64) A923 C924 l922] [] _ := ⟨_, _, hS.re [4] [] rfl sub_self⟩
              refine ⟨hC, ?_⟩
              refine ED.Y hN hF hC 16 1 #[true, true, true, true, true, true, true, true, true, true, true, true, true, true, true, true, true, false] (by kernel_rfl) (by kernel_rfl) rfl (fun _ _ _ hS => YO.idx 89 1 ad1159 l918.length C920 .i64 a926 68 (by kernel_rfl) (by kernel_rfl) (by kernel_rfl) (by kernel_rfl) h1157 h1158) ?_
              refine ED.one 17 0 #[true, true, true, true, true, true, true, true, true, true, true, true, true, true, true, true, true, true] (by kernel_rfl) (by kernel_rfl) (by kernel_rfl) (EO.closeEl hS 1 2 ad1159 a926 rfl rfl h1157 l1178 hl1178 (Ass.own 96 kS96 (some ⟨g1223, 0, none⟩) 1 l1173 :: Ass.box 91 g917 [.slice (some ad1159) l918.length C920, .slice A923 l922.length C924] :: Ass.deep 94 96 kS96 (some ad1159) C920 l1178 :: Ass.own 3 (Kd.int .i64) A923 C924 l922 :: os) 94 (by kernel_rfl) (by kernel_rfl) (by kernel_rfl) (by kernel_rfl) rfl ?_)
              intro w hS
              have hS : St B w (Ass.own 96 kS96 (some ⟨g1223, 0, none⟩) 1 l1173 :: Ass.box 91 g917 [.slice (some ad1159) l1178.length C920, .slice A923 l922.length C924] :: Ass.deep 94 96 kS96 (some ad1159) C920 l1178 :: Ass.own 3 (Kd.int .i64) A923 C924 l922 :: os) (rs) := by simpa only [hl1178, List.length_set] using hS
              have hC : Core B [Ass.own 3 (Kd.int .i64) A923 C924 l922] [] _ := ⟨_, _, hS.re [3] [] rfl sub_self⟩
              refine ⟨hC, ?_⟩
              refine ED.keep [8, 9, 54, 55, 56, 59, 60, 61, 62, 65, 66, 68] [(8, .int .i32 t1162), (9, .bool (t1163)), (54, .pointer (some ⟨g917, 0, none⟩)), (55, .slice (some ad1159) l918.length C920), (56, .int .i64 a926), (59, .pointer (some ⟨g917, 0, none⟩)), (60, .slice (some ad1159) l918.length C920), (61, .int .i64 a926), (62, .pointer (some ((ad1159.add (a926.toNat * 1)).add 0))), (65, .agg #[.int .i64 a927, .int .i64 0, .int .i32 0, .int .i64 0]), (66, .slice (some ⟨g1223, 0, none⟩) l1173.length 1), (68, .pointer (some ((ad1159.add (a926.toNat * 1)).add 0)))] (by kernel_rfl) ?_
              refine ED.as' [(8, .int .i32 t1162), (9, .bool (t1163)), (54, .pointer (some ⟨g917, 0, none⟩)), (55, .slice (some ad1159) l1178.length C920), (56, .int .i64 a926), (59, .pointer (some ⟨g917, 0, none⟩)), (60, .slice (some ad1159) l1178.length C920), (61, .int .i64 a926), (62, .pointer (some ((ad1159.add (a926.toNat * 1)).add 0))), (65, .agg #[.int .i64 a927, .int .i64 0, .int .i32 0, .int .i64 0]), (66, .slice (some ⟨g1223, 0, none⟩) l1173.length 1), (68, .pointer (some ((ad1159.add (a926.toNat * 1)).add 0)))] (by simp only [hl1178, List.length_set]) ?_
              refine ED.done (by kernel_rfl) ?_
              refine EQ.to ?_
              refine EQ.keep [8, 9] [(8, .int .i32 t1162), (9, .bool (t1163))] (by kernel_rfl) ?_
              exact fun a ha => ⟨(some ⟨g1223, 0, none⟩), 1, ha, (hS.re [3, 3, 3, 3] [] rfl (sub_self))⟩
          · refine EO.lit hS kS96 96 94 1 #[(0, .agg #[.int .i64 a927, .int .i64 0, .int .i32 0, .int .i64 0])] [.int .i64 a927, .int .i64 0, .int .i32 0, .int .i64 0] l1173 66 (by kernel_rfl) (by kernel_rfl) (by kernel_rfl) (fun _ => (by kernel_rfl)) (by rw [hl1173]; rfl) (by kernel_rfl) (fun w G hr => (by rw [hl1173]; exact ⟨[.int .i64 a927, .int .i64 0, .int .i32 0, .int .i64 0], [], rfl, ⟨[.int .i64 a927], [.int .i64 0, .int .i32 0, .int .i64 0], rfl, rfl, ⟨[.int .i64 0], [.int .i32 0, .int .i64 0], rfl, rfl, ⟨[.int .i32 0], [.int .i64 0], rfl, rfl, ⟨[.int .i64 0], [], rfl, rfl, rfl⟩⟩⟩⟩, rfl⟩)) ?_
            intro g1226 w hS
            have hC : Core B [Ass.own 3 (Kd.int .i64) A923 C924 l922] [] _ := ⟨_, _, hS.re [4] [] rfl sub_self⟩
            refine ⟨hC, ?_⟩
            refine ED.at' #[true, true, true, true, true, true, true, true, false, true, false, false, true, true, true, false, false, false] (by kernel_rfl) ?_
            refine ED.one 8 5 #[true, true, true, true, true, true, true, true, true, true, false, false, true, true, true, false, false, false] (by kernel_rfl) (by kernel_rfl) (by kernel_rfl) (EO.Y (YO.loadBox hS 2 rfl 89 0 1 (.slice (some ad1159) l918.length C920) 60 (by kernel_rfl) (by kernel_rfl) (by kernel_rfl) (by kernel_rfl)) ?_)
            have hC : Core B [Ass.own 3 (Kd.int .i64) A923 C924 l922] [] _ := ⟨_, _, hS.re [4] [] rfl sub_self⟩
            refine ⟨hC, ?_⟩
            refine ED.Y hN hF hC 10 4 #[true, true, true, true, true, true, true, true, true, true, true, false, true, true, true, false, false, false] (by kernel_rfl) (by kernel_rfl) rfl (fun _ _ _ hS => YO.idx 89 1 ad1159 l918.length C920 .i64 a926 62 (by kernel_rfl) (by kernel_rfl) (by kernel_rfl) (by kernel_rfl) h1157 h1158) ?_
            refine ED.one 11 3 #[true, true, true, true, true, true, true, true, true, true, true, true, true, true, true, false, false, false] (by kernel_rfl) (by kernel_rfl) (by kernel_rfl) (EO.Y (YO.loadHole hS 3 ad1159 (j := a926) rfl h1157 94 63 (by kernel_rfl) (by kernel_rfl) (by kernel_rfl) (by kernel_rfl)) ?_)
            have hC : Core B [Ass.own 3 (Kd.int .i64) A923 C924 l922] [] _ := ⟨_, _, hS.re [4] [] rfl sub_self⟩
            refine ⟨hC, ?_⟩
            refine ED.one 15 2 #[true, true, true, true, true, true, true, true, true, true, true, true, true, true, true, true, false, false] (by kernel_rfl) (by kernel_rfl) (by kernel_rfl) (EO.append hS 94 94 96 32 1 kS96 A1160 C1161 (l918.getD a926.toNat []) rfl (some ⟨g1226, 0, none⟩) 1 l1173 (Rd.own 0 96 rfl) l1175 hl1175 (fun A1227 C1228 => Ass.own 96 kS96 (some ⟨g1226, 0, none⟩) 1 l1173 :: Ass.own 96 kS96 A1227 C1228 l1175 :: Ass.box 91 g917 [.slice (some ad1159) l918.length C920, .slice A923 l922.length C924] :: Ass.holed 94 96 kS96 (some ad1159) C920 l918 a926.toNat (A1160, (l918.getD a926.toNat []).length, C1161) :: Ass.own 3 (Kd.int .i64) A923 C924 l922 :: os) 67 (by kernel_rfl) (by kernel_rfl) (by kernel_rfl) (by kernel_rfl) h1174 (fun _ _ => rfl) ?_)
            intro A1227 C1228 w hS
            have hC : Core B [Ass.own 3 (Kd.int .i64) A923 C924 l922] [] _ := ⟨_, _, hS.re [4] [] rfl sub_self⟩
            refine ⟨hC, ?_⟩
            refine ED.Y hN hF hC 16 1 #[true, true, true, true, true, true, true, true, true, true, true, true, true, true, true, true, true, false] (by kernel_rfl) (by kernel_rfl) rfl (fun _ _ _ hS => YO.idx 89 1 ad1159 l918.length C920 .i64 a926 68 (by kernel_rfl) (by kernel_rfl) (by kernel_rfl) (by kernel_rfl) h1157 h1158) ?_
            refine ED.one 17 0 #[true, true, true, true, true, true, true, true, true, true, true, true, true, true, true, true, true, true] (by kernel_rfl) (by kernel_rfl) (by kernel_rfl) (EO.closeEl hS 1 2 ad1159 a926 rfl rfl h1157 l1178 hl1178 (Ass.own 96 kS96 (some ⟨g1226, 0, none⟩) 1 l1173 :: Ass.box 91 g917 [.slice (some ad1159) l918.length C920, .slice A923 l922.length C924] :: Ass.deep 94 96 kS96 (some ad1159) C920 l1178 :: Ass.own 3 (Kd.int .i64) A923 C924 l922 :: os) 94 (by kernel_rfl) (by kernel_rfl) (by kernel_rfl) (by kernel_rfl) rfl ?_)
            intro w hS
            have hS : St B w (Ass.own 96 kS96 (some ⟨g1226, 0, none⟩) 1 l1173 :: Ass.box 91 g917 [.slice (some ad1159) l1178.length C920, .slice A923 l922.length C924] :: Ass.deep 94 96 kS96 (some ad1159) C920 l1178 :: Ass.own 3 (Kd.int .i64) A923 C924 l922 :: os) (rs) := by simpa only [hl1178, List.length_set] using hS
            have hC : Core B [Ass.own 3 (Kd.int .i64) A923 C924 l922] [] _ := ⟨_, _, hS.re [3] [] rfl sub_self⟩
            refine ⟨hC, ?_⟩
            refine ED.keep [8, 9, 54, 55, 56, 59, 60, 61, 62, 65, 66, 68] [(8, .int .i32 t1162), (9, .bool (t1163)), (54, .pointer (some ⟨g917, 0, none⟩)), (55, .slice (some ad1159) l918.length C920), (56, .int .i64 a926), (59, .pointer (some ⟨g917, 0, none⟩)), (60, .slice (some ad1159) l918.length C920), (61, .int .i64 a926), (62, .pointer (some ((ad1159.add (a926.toNat * 1)).add 0))), (65, .agg #[.int .i64 a927, .int .i64 0, .int .i32 0, .int .i64 0]), (66, .slice (some ⟨g1226, 0, none⟩) l1173.length 1), (68, .pointer (some ((ad1159.add (a926.toNat * 1)).add 0)))] (by kernel_rfl) ?_
            refine ED.as' [(8, .int .i32 t1162), (9, .bool (t1163)), (54, .pointer (some ⟨g917, 0, none⟩)), (55, .slice (some ad1159) l1178.length C920), (56, .int .i64 a926), (59, .pointer (some ⟨g917, 0, none⟩)), (60, .slice (some ad1159) l1178.length C920), (61, .int .i64 a926), (62, .pointer (some ((ad1159.add (a926.toNat * 1)).add 0))), (65, .agg #[.int .i64 a927, .int .i64 0, .int .i32 0, .int .i64 0]), (66, .slice (some ⟨g1226, 0, none⟩) l1173.length 1), (68, .pointer (some ((ad1159.add (a926.toNat * 1)).add 0)))] (by simp only [hl1178, List.length_set]) ?_
            refine ED.done (by kernel_rfl) ?_
            refine EQ.to ?_
            refine EQ.keep [8, 9] [(8, .int .i32 t1162), (9, .bool (t1163))] (by kernel_rfl) ?_
            exact fun a ha => ⟨(some ⟨g1226, 0, none⟩), 1, ha, (hS.re [3, 3, 3, 3] [] rfl (sub_self))⟩
        · refine EO.Y (YO.loadBox hS 1 rfl 89 0 1 (.slice (some ad1159) l918.length C920) 60 (by kernel_rfl) (by kernel_rfl) (by kernel_rfl) (by kernel_rfl)) ?_
          have hC : Core B [Ass.own 3 (Kd.int .i64) A923 C924 l922] [] _ := ⟨_, _, hS.re [3] [] rfl sub_self⟩
          refine ⟨hC, ?_⟩
          refine ED.at' #[true, true, true, false, true, true, true, true, true, true, false, false, true, true, false, false, false, false] (by kernel_rfl) ?_
          refine ED.Y hN hF hC 10 6 #[true, true, true, false, true, true, true, true, true, true, true, false, true, true, false, false, false, false] (by kernel_rfl) (by kernel_rfl) rfl (fun _ _ _ hS => YO.idx 89 1 ad1159 l918.length C920 .i64 a926 62 (by kernel_rfl) (by kernel_rfl) (by kernel_rfl) (by kernel_rfl) h1157 h1158) ?_
          refine ED.many 3 [11, 14] 5 (by kernel_rfl) (by kernel_rfl) (Each.cons ?_ (Each.cons ?_ (Each.cons ?_ Each.nil)))
          · refine EO.Y (YO.loadBox hS 1 rfl 89 0 1 (.slice (some ad1159) l918.length C920) 55 (by kernel_rfl) (by kernel_rfl) (by kernel_rfl) (by kernel_rfl)) ?_
            have hC : Core B [Ass.own 3 (Kd.int .i64) A923 C924 l922] [] _ := ⟨_, _, hS.re [3] [] rfl sub_self⟩
            refine ⟨hC, ?_⟩
            refine ED.at' #[true, true, true, true, true, true, true, true, true, true, true, false, true, true, false, false, false, false] (by kernel_rfl) ?_
            refine ED.two 11 14 4 (by kernel_rfl) (by kernel_rfl) ?_ ?_
            · refine EO.Y (YO.loadHole hS 2 ad1159 (j := a926) rfl h1157 94 63 (by kernel_rfl) (by kernel_rfl) (by kernel_rfl) (by kernel_rfl)) ?_
              have hC : Core B [Ass.own 3 (Kd.int .i64) A923 C924 l922] [] _ := ⟨_, _, hS.re [3] [] rfl sub_self⟩
              refine ⟨hC, ?_⟩
              refine ED.at' #[true, true, true, true, true, true, true, true, true, true, true, true, true, true, false, false, false, false] (by kernel_rfl) ?_
              refine ED.one 14 3 #[true, true, true, true, true, true, true, true, true, true, true, true, true, true, true, false, false, false] (by kernel_rfl) (by kernel_rfl) (by kernel_rfl) (EO.lit hS kS96 96 94 1 #[(0, .agg #[.int .i64 a927, .int .i64 0, .int .i32 0, .int .i64 0])] [.int .i64 a927, .int .i64 0, .int .i32 0, .int .i64 0] l1173 66 (by kernel_rfl) (by kernel_rfl) (by kernel_rfl) (fun _ => (by kernel_rfl)) (by rw [hl1173]; rfl) (by kernel_rfl) (fun w G hr => (by rw [hl1173]; exact ⟨[.int .i64 a927, .int .i64 0, .int .i32 0, .int .i64 0], [], rfl, ⟨[.int .i64 a927], [.int .i64 0, .int .i32 0, .int .i64 0], rfl, rfl, ⟨[.int .i64 0], [.int .i32 0, .int .i64 0], rfl, rfl, ⟨[.int .i32 0], [.int .i64 0], rfl, rfl, ⟨[.int .i64 0], [], rfl, rfl, rfl⟩⟩⟩⟩, rfl⟩)) ?_)
              intro g1229 w hS
              have hC : Core B [Ass.own 3 (Kd.int .i64) A923 C924 l922] [] _ := ⟨_, _, hS.re [4] [] rfl sub_self⟩
              refine ⟨hC, ?_⟩
              refine ED.one 15 2 #[true, true, true, true, true, true, true, true, true, true, true, true, true, true, true, true, false, false] (by kernel_rfl) (by kernel_rfl) (by kernel_rfl) (EO.append hS 94 94 96 32 1 kS96 A1160 C1161 (l918.getD a926.toNat []) rfl (some ⟨g1229, 0, none⟩) 1 l1173 (Rd.own 0 96 rfl) l1175 hl1175 (fun A1230 C1231 => Ass.own 96 kS96 (some ⟨g1229, 0, none⟩) 1 l1173 :: Ass.own 96 kS96 A1230 C1231 l1175 :: Ass.box 91 g917 [.slice (some ad1159) l918.length C920, .slice A923 l922.length C924] :: Ass.holed 94 96 kS96 (some ad1159) C920 l918 a926.toNat (A1160, (l918.getD a926.toNat []).length, C1161) :: Ass.own 3 (Kd.int .i64) A923 C924 l922 :: os) 67 (by kernel_rfl) (by kernel_rfl) (by kernel_rfl) (by kernel_rfl) h1174 (fun _ _ => rfl) ?_)
              intro A1230 C1231 w hS
              have hC : Core B [Ass.own 3 (Kd.int .i64) A923 C924 l922] [] _ := ⟨_, _, hS.re [4] [] rfl sub_self⟩
              refine ⟨hC, ?_⟩
              refine ED.Y hN hF hC 16 1 #[true, true, true, true, true, true, true, true, true, true, true, true, true, true, true, true, true, false] (by kernel_rfl) (by kernel_rfl) rfl (fun _ _ _ hS => YO.idx 89 1 ad1159 l918.length C920 .i64 a926 68 (by kernel_rfl) (by kernel_rfl) (by kernel_rfl) (by kernel_rfl) h1157 h1158) ?_
              refine ED.one 17 0 #[true, true, true, true, true, true, true, true, true, true, true, true, true, true, true, true, true, true] (by kernel_rfl) (by kernel_rfl) (by kernel_rfl) (EO.closeEl hS 1 2 ad1159 a926 rfl rfl h1157 l1178 hl1178 (Ass.own 96 kS96 (some ⟨g1229, 0, none⟩) 1 l1173 :: Ass.box 91 g917 [.slice (some ad1159) l918.length C920, .slice A923 l922.length C924] :: Ass.deep 94 96 kS96 (some ad1159) C920 l1178 :: Ass.own 3 (Kd.int .i64) A923 C924 l922 :: os) 94 (by kernel_rfl) (by kernel_rfl) (by kernel_rfl) (by kernel_rfl) rfl ?_)
              intro w hS
              have hS : St B w (Ass.own 96 kS96 (some ⟨g1229, 0, none⟩) 1 l1173 :: Ass.box 91 g917 [.slice (some ad1159) l1178.length C920, .slice A923 l922.length C924] :: Ass.deep 94 96 kS96 (some ad1159) C920 l1178 :: Ass.own 3 (Kd.int .i64) A923 C924 l922 :: os) (rs) := by simpa only [hl1178, List.length_set] using hS
              have hC : Core B [Ass.own 3 (Kd.int .i64) A923 C924 l922] [] _ := ⟨_, _, hS.re [3] [] rfl sub_self⟩
              refine ⟨hC, ?_⟩
              refine ED.keep [8, 9, 54, 55, 56, 59, 60, 61, 62, 65, 66, 68] [(8, .int .i32 t1162), (9, .bool (t1163)), (54, .pointer (some ⟨g917, 0, none⟩)), (55, .slice (some ad1159) l918.length C920), (56, .int .i64 a926), (59, .pointer (some ⟨g917, 0, none⟩)), (60, .slice (some ad1159) l918.length C920), (61, .int .i64 a926), (62, .pointer (some ((ad1159.add (a926.toNat * 1)).add 0))), (65, .agg #[.int .i64 a927, .int .i64 0, .int .i32 0, .int .i64 0]), (66, .slice (some ⟨g1229, 0, none⟩) l1173.length 1), (68, .pointer (some ((ad1159.add (a926.toNat * 1)).add 0)))] (by kernel_rfl) ?_
              refine ED.as' [(8, .int .i32 t1162), (9, .bool (t1163)), (54, .pointer (some ⟨g917, 0, none⟩)), (55, .slice (some ad1159) l1178.length C920), (56, .int .i64 a926), (59, .pointer (some ⟨g917, 0, none⟩)), (60, .slice (some ad1159) l1178.length C920), (61, .int .i64 a926), (62, .pointer (some ((ad1159.add (a926.toNat * 1)).add 0))), (65, .agg #[.int .i64 a927, .int .i64 0, .int .i32 0, .int .i64 0]), (66, .slice (some ⟨g1229, 0, none⟩) l1173.length 1), (68, .pointer (some ((ad1159.add (a926.toNat * 1)).add 0)))] (by simp only [hl1178, List.length_set]) ?_
              refine ED.done (by kernel_rfl) ?_
              refine EQ.to ?_
              refine EQ.keep [8, 9] [(8, .int .i32 t1162), (9, .bool (t1163))] (by kernel_rfl) ?_
              exact fun a ha => ⟨(some ⟨g1229, 0, none⟩), 1, ha, (hS.re [3, 3, 3, 3] [] rfl (sub_self))⟩
            · refine EO.lit hS kS96 96 94 1 #[(0, .agg #[.int .i64 a927, .int .i64 0, .int .i32 0, .int .i64 0])] [.int .i64 a927, .int .i64 0, .int .i32 0, .int .i64 0] l1173 66 (by kernel_rfl) (by kernel_rfl) (by kernel_rfl) (fun _ => (by kernel_rfl)) (by rw [hl1173]; rfl) (by kernel_rfl) (fun w G hr => (by rw [hl1173]; exact ⟨[.int .i64 a927, .int .i64 0, .int .i32 0, .int .i64 0], [], rfl, ⟨[.int .i64 a927], [.int .i64 0, .int .i32 0, .int .i64 0], rfl, rfl, ⟨[.int .i64 0], [.int .i32 0, .int .i64 0], rfl, rfl, ⟨[.int .i32 0], [.int .i64 0], rfl, rfl, ⟨[.int .i64 0], [], rfl, rfl, rfl⟩⟩⟩⟩, rfl⟩)) ?_
              intro g1232 w hS
              have hC : Core B [Ass.own 3 (Kd.int .i64) A923 C924 l922] [] _ := ⟨_, _, hS.re [4] [] rfl sub_self⟩
              refine ⟨hC, ?_⟩
              refine ED.at' #[true, true, true, true, true, true, true, true, true, true, true, false, true, true, true, false, false, false] (by kernel_rfl) ?_
              refine ED.one 11 3 #[true, true, true, true, true, true, true, true, true, true, true, true, true, true, true, false, false, false] (by kernel_rfl) (by kernel_rfl) (by kernel_rfl) (EO.Y (YO.loadHole hS 3 ad1159 (j := a926) rfl h1157 94 63 (by kernel_rfl) (by kernel_rfl) (by kernel_rfl) (by kernel_rfl)) ?_)
              have hC : Core B [Ass.own 3 (Kd.int .i64) A923 C924 l922] [] _ := ⟨_, _, hS.re [4] [] rfl sub_self⟩
              refine ⟨hC, ?_⟩
              refine ED.one 15 2 #[true, true, true, true, true, true, true, true, true, true, true, true, true, true, true, true, false, false] (by kernel_rfl) (by kernel_rfl) (by kernel_rfl) (EO.append hS 94 94 96 32 1 kS96 A1160 C1161 (l918.getD a926.toNat []) rfl (some ⟨g1232, 0, none⟩) 1 l1173 (Rd.own 0 96 rfl) l1175 hl1175 (fun A1233 C1234 => Ass.own 96 kS96 (some ⟨g1232, 0, none⟩) 1 l1173 :: Ass.own 96 kS96 A1233 C1234 l1175 :: Ass.box 91 g917 [.slice (some ad1159) l918.length C920, .slice A923 l922.length C924] :: Ass.holed 94 96 kS96 (some ad1159) C920 l918 a926.toNat (A1160, (l918.getD a926.toNat []).length, C1161) :: Ass.own 3 (Kd.int .i64) A923 C924 l922 :: os) 67 (by kernel_rfl) (by kernel_rfl) (by kernel_rfl) (by kernel_rfl) h1174 (fun _ _ => rfl) ?_)
              intro A1233 C1234 w hS
              have hC : Core B [Ass.own 3 (Kd.int .i64) A923 C924 l922] [] _ := ⟨_, _, hS.re [4] [] rfl sub_self⟩
              refine ⟨hC, ?_⟩
              refine ED.Y hN hF hC 16 1 #[true, true, true, true, true, true, true, true, true, true, true, true, true, true, true, true, true, false] (by kernel_rfl) (by kernel_rfl) rfl (fun _ _ _ hS => YO.idx 89 1 ad1159 l918.length C920 .i64 a926 68 (by kernel_rfl) (by kernel_rfl) (by kernel_rfl) (by kernel_rfl) h1157 h1158) ?_
              refine ED.one 17 0 #[true, true, true, true, true, true, true, true, true, true, true, true, true, true, true, true, true, true] (by kernel_rfl) (by kernel_rfl) (by kernel_rfl) (EO.closeEl hS 1 2 ad1159 a926 rfl rfl h1157 l1178 hl1178 (Ass.own 96 kS96 (some ⟨g1232, 0, none⟩) 1 l1173 :: Ass.box 91 g917 [.slice (some ad1159) l918.length C920, .slice A923 l922.length C924] :: Ass.deep 94 96 kS96 (some ad1159) C920 l1178 :: Ass.own 3 (Kd.int .i64) A923 C924 l922 :: os) 94 (by kernel_rfl) (by kernel_rfl) (by kernel_rfl) (by kernel_rfl) rfl ?_)
              intro w hS
              have hS : St B w (Ass.own 96 kS96 (some ⟨g1232, 0, none⟩) 1 l1173 :: Ass.box 91 g917 [.slice (some ad1159) l1178.length C920, .slice A923 l922.length C924] :: Ass.deep 94 96 kS96 (some ad1159) C920 l1178 :: Ass.own 3 (Kd.int .i64) A923 C924 l922 :: os) (rs) := by simpa only [hl1178, List.length_set] using hS
              have hC : Core B [Ass.own 3 (Kd.int .i64) A923 C924 l922] [] _ := ⟨_, _, hS.re [3] [] rfl sub_self⟩
              refine ⟨hC, ?_⟩
              refine ED.keep [8, 9, 54, 55, 56, 59, 60, 61, 62, 65, 66, 68] [(8, .int .i32 t1162), (9, .bool (t1163)), (54, .pointer (some ⟨g917, 0, none⟩)), (55, .slice (some ad1159) l918.length C920), (56, .int .i64 a926), (59, .pointer (some ⟨g917, 0, none⟩)), (60, .slice (some ad1159) l918.length C920), (61, .int .i64 a926), (62, .pointer (some ((ad1159.add (a926.toNat * 1)).add 0))), (65, .agg #[.int .i64 a927, .int .i64 0, .int .i32 0, .int .i64 0]), (66, .slice (some ⟨g1232, 0, none⟩) l1173.length 1), (68, .pointer (some ((ad1159.add (a926.toNat * 1)).add 0)))] (by kernel_rfl) ?_
              refine ED.as' [(8, .int .i32 t1162), (9, .bool (t1163)), (54, .pointer (some ⟨g917, 0, none⟩)), (55, .slice (some ad1159) l1178.length C920), (56, .int .i64 a926), (59, .pointer (some ⟨g917, 0, none⟩)), (60, .slice (some ad1159) l1178.length C920), (61, .int .i64 a926), (62, .pointer (some ((ad1159.add (a926.toNat * 1)).add 0))), (65, .agg #[.int .i64 a927, .int .i64 0, .int .i32 0, .int .i64 0]), (66, .slice (some ⟨g1232, 0, none⟩) l1173.length 1), (68, .pointer (some ((ad1159.add (a926.toNat * 1)).add 0)))] (by simp only [hl1178, List.length_set]) ?_
              refine ED.done (by kernel_rfl) ?_
              refine EQ.to ?_
              refine EQ.keep [8, 9] [(8, .int .i32 t1162), (9, .bool (t1163))] (by kernel_rfl) ?_
              exact fun a ha => ⟨(some ⟨g1232, 0, none⟩), 1, ha, (hS.re [3, 3, 3, 3] [] rfl (sub_self))⟩
          · refine EO.Y (YO.loadHole hS 2 ad1159 (j := a926) rfl h1157 94 63 (by kernel_rfl) (by kernel_rfl) (by kernel_rfl) (by kernel_rfl)) ?_
            have hC : Core B [Ass.own 3 (Kd.int .i64) A923 C924 l922] [] _ := ⟨_, _, hS.re [3] [] rfl sub_self⟩
            refine ⟨hC, ?_⟩
            refine ED.at' #[true, true, true, false, true, true, true, true, true, true, true, true, true, true, false, false, false, false] (by kernel_rfl) ?_
            refine ED.two 3 14 4 (by kernel_rfl) (by kernel_rfl) ?_ ?_
            · refine EO.Y (YO.loadBox hS 1 rfl 89 0 1 (.slice (some ad1159) l918.length C920) 55 (by kernel_rfl) (by kernel_rfl) (by kernel_rfl) (by kernel_rfl)) ?_
              have hC : Core B [Ass.own 3 (Kd.int .i64) A923 C924 l922] [] _ := ⟨_, _, hS.re [3] [] rfl sub_self⟩
              refine ⟨hC, ?_⟩
              refine ED.at' #[true, true, true, true, true, true, true, true, true, true, true, true, true, true, false, false, false, false] (by kernel_rfl) ?_
              refine ED.one 14 3 #[true, true, true, true, true, true, true, true, true, true, true, true, true, true, true, false, false, false] (by kernel_rfl) (by kernel_rfl) (by kernel_rfl) (EO.lit hS kS96 96 94 1 #[(0, .agg #[.int .i64 a927, .int .i64 0, .int .i32 0, .int .i64 0])] [.int .i64 a927, .int .i64 0, .int .i32 0, .int .i64 0] l1173 66 (by kernel_rfl) (by kernel_rfl) (by kernel_rfl) (fun _ => (by kernel_rfl)) (by rw [hl1173]; rfl) (by kernel_rfl) (fun w G hr => (by rw [hl1173]; exact ⟨[.int .i64 a927, .int .i64 0, .int .i32 0, .int .i64 0], [], rfl, ⟨[.int .i64 a927], [.int .i64 0, .int .i32 0, .int .i64 0], rfl, rfl, ⟨[.int .i64 0], [.int .i32 0, .int .i64 0], rfl, rfl, ⟨[.int .i32 0], [.int .i64 0], rfl, rfl, ⟨[.int .i64 0], [], rfl, rfl, rfl⟩⟩⟩⟩, rfl⟩)) ?_)
              intro g1235 w hS
              have hC : Core B [Ass.own 3 (Kd.int .i64) A923 C924 l922] [] _ := ⟨_, _, hS.re [4] [] rfl sub_self⟩
              refine ⟨hC, ?_⟩
              refine ED.one 15 2 #[true, true, true, true, true, true, true, true, true, true, true, true, true, true, true, true, false, false] (by kernel_rfl) (by kernel_rfl) (by kernel_rfl) (EO.append hS 94 94 96 32 1 kS96 A1160 C1161 (l918.getD a926.toNat []) rfl (some ⟨g1235, 0, none⟩) 1 l1173 (Rd.own 0 96 rfl) l1175 hl1175 (fun A1236 C1237 => Ass.own 96 kS96 (some ⟨g1235, 0, none⟩) 1 l1173 :: Ass.own 96 kS96 A1236 C1237 l1175 :: Ass.box 91 g917 [.slice (some ad1159) l918.length C920, .slice A923 l922.length C924] :: Ass.holed 94 96 kS96 (some ad1159) C920 l918 a926.toNat (A1160, (l918.getD a926.toNat []).length, C1161) :: Ass.own 3 (Kd.int .i64) A923 C924 l922 :: os) 67 (by kernel_rfl) (by kernel_rfl) (by kernel_rfl) (by kernel_rfl) h1174 (fun _ _ => rfl) ?_)
              intro A1236 C1237 w hS
              have hC : Core B [Ass.own 3 (Kd.int .i64) A923 C924 l922] [] _ := ⟨_, _, hS.re [4] [] rfl sub_self⟩
              refine ⟨hC, ?_⟩
              refine ED.Y hN hF hC 16 1 #[true, true, true, true, true, true, true, true, true, true, true, true, true, true, true, true, true, false] (by kernel_rfl) (by kernel_rfl) rfl (fun _ _ _ hS => YO.idx 89 1 ad1159 l918.length C920 .i64 a926 68 (by kernel_rfl) (by kernel_rfl) (by kernel_rfl) (by kernel_rfl) h1157 h1158) ?_
              refine ED.one 17 0 #[true, true, true, true, true, true, true, true, true, true, true, true, true, true, true, true, true, true] (by kernel_rfl) (by kernel_rfl) (by kernel_rfl) (EO.closeEl hS 1 2 ad1159 a926 rfl rfl h1157 l1178 hl1178 (Ass.own 96 kS96 (some ⟨g1235, 0, none⟩) 1 l1173 :: Ass.box 91 g917 [.slice (some ad1159) l918.length C920, .slice A923 l922.length C924] :: Ass.deep 94 96 kS96 (some ad1159) C920 l1178 :: Ass.own 3 (Kd.int .i64) A923 C924 l922 :: os) 94 (by kernel_rfl) (by kernel_rfl) (by kernel_rfl) (by kernel_rfl) rfl ?_)
              intro w hS
              have hS : St B w (Ass.own 96 kS96 (some ⟨g1235, 0, none⟩) 1 l1173 :: Ass.box 91 g917 [.slice (some ad1159) l1178.length C920, .slice A923 l922.length C924] :: Ass.deep 94 96 kS96 (some ad1159) C920 l1178 :: Ass.own 3 (Kd.int .i64) A923 C924 l922 :: os) (rs) := by simpa only [hl1178, List.length_set] using hS
              have hC : Core B [Ass.own 3 (Kd.int .i64) A923 C924 l922] [] _ := ⟨_, _, hS.re [3] [] rfl sub_self⟩
              refine ⟨hC, ?_⟩
              refine ED.keep [8, 9, 54, 55, 56, 59, 60, 61, 62, 65, 66, 68] [(8, .int .i32 t1162), (9, .bool (t1163)), (54, .pointer (some ⟨g917, 0, none⟩)), (55, .slice (some ad1159) l918.length C920), (56, .int .i64 a926), (59, .pointer (some ⟨g917, 0, none⟩)), (60, .slice (some ad1159) l918.length C920), (61, .int .i64 a926), (62, .pointer (some ((ad1159.add (a926.toNat * 1)).add 0))), (65, .agg #[.int .i64 a927, .int .i64 0, .int .i32 0, .int .i64 0]), (66, .slice (some ⟨g1235, 0, none⟩) l1173.length 1), (68, .pointer (some ((ad1159.add (a926.toNat * 1)).add 0)))] (by kernel_rfl) ?_
              refine ED.as' [(8, .int .i32 t1162), (9, .bool (t1163)), (54, .pointer (some ⟨g917, 0, none⟩)), (55, .slice (some ad1159) l1178.length C920), (56, .int .i64 a926), (59, .pointer (some ⟨g917, 0, none⟩)), (60, .slice (some ad1159) l1178.length C920), (61, .int .i64 a926), (62, .pointer (some ((ad1159.add (a926.toNat * 1)).add 0))), (65, .agg #[.int .i64 a927, .int .i64 0, .int .i32 0, .int .i64 0]), (66, .slice (some ⟨g1235, 0, none⟩) l1173.length 1), (68, .pointer (some ((ad1159.add (a926.toNat * 1)).add 0)))] (by simp only [hl1178, List.length_set]) ?_
              refine ED.done (by kernel_rfl) ?_
              refine EQ.to ?_
              refine EQ.keep [8, 9] [(8, .int .i32 t1162), (9, .bool (t1163))] (by kernel_rfl) ?_
              exact fun a ha => ⟨(some ⟨g1235, 0, none⟩), 1, ha, (hS.re [3, 3, 3, 3] [] rfl (sub_self))⟩
            · refine EO.lit hS kS96 96 94 1 #[(0, .agg #[.int .i64 a927, .int .i64 0, .int .i32 0, .int .i64 0])] [.int .i64 a927, .int .i64 0, .int .i32 0, .int .i64 0] l1173 66 (by kernel_rfl) (by kernel_rfl) (by kernel_rfl) (fun _ => (by kernel_rfl)) (by rw [hl1173]; rfl) (by kernel_rfl) (fun w G hr => (by rw [hl1173]; exact ⟨[.int .i64 a927, .int .i64 0, .int .i32 0, .int .i64 0], [], rfl, ⟨[.int .i64 a927], [.int .i64 0, .int .i32 0, .int .i64 0], rfl, rfl, ⟨[.int .i64 0], [.int .i32 0, .int .i64 0], rfl, rfl, ⟨[.int .i32 0], [.int .i64 0], rfl, rfl, ⟨[.int .i64 0], [], rfl, rfl, rfl⟩⟩⟩⟩, rfl⟩)) ?_
              intro g1238 w hS
              have hC : Core B [Ass.own 3 (Kd.int .i64) A923 C924 l922] [] _ := ⟨_, _, hS.re [4] [] rfl sub_self⟩
              refine ⟨hC, ?_⟩
              refine ED.at' #[true, true, true, false, true, true, true, true, true, true, true, true, true, true, true, false, false, false] (by kernel_rfl) ?_
              refine ED.two 3 15 3 (by kernel_rfl) (by kernel_rfl) ?_ ?_
              · refine EO.Y (YO.loadBox hS 2 rfl 89 0 1 (.slice (some ad1159) l918.length C920) 55 (by kernel_rfl) (by kernel_rfl) (by kernel_rfl) (by kernel_rfl)) ?_
                have hC : Core B [Ass.own 3 (Kd.int .i64) A923 C924 l922] [] _ := ⟨_, _, hS.re [4] [] rfl sub_self⟩
                refine ⟨hC, ?_⟩
                refine ED.at' #[true, true, true, true, true, true, true, true, true, true, true, true, true, true, true, false, false, false] (by kernel_rfl) ?_
                refine ED.one 15 2 #[true, true, true, true, true, true, true, true, true, true, true, true, true, true, true, true, false, false] (by kernel_rfl) (by kernel_rfl) (by kernel_rfl) (EO.append hS 94 94 96 32 1 kS96 A1160 C1161 (l918.getD a926.toNat []) rfl (some ⟨g1238, 0, none⟩) 1 l1173 (Rd.own 0 96 rfl) l1175 hl1175 (fun A1239 C1240 => Ass.own 96 kS96 (some ⟨g1238, 0, none⟩) 1 l1173 :: Ass.own 96 kS96 A1239 C1240 l1175 :: Ass.box 91 g917 [.slice (some ad1159) l918.length C920, .slice A923 l922.length C924] :: Ass.holed 94 96 kS96 (some ad1159) C920 l918 a926.toNat (A1160, (l918.getD a926.toNat []).length, C1161) :: Ass.own 3 (Kd.int .i64) A923 C924 l922 :: os) 67 (by kernel_rfl) (by kernel_rfl) (by kernel_rfl) (by kernel_rfl) h1174 (fun _ _ => rfl) ?_)
                intro A1239 C1240 w hS
                have hC : Core B [Ass.own 3 (Kd.int .i64) A923 C924 l922] [] _ := ⟨_, _, hS.re [4] [] rfl sub_self⟩
                refine ⟨hC, ?_⟩
                refine ED.Y hN hF hC 16 1 #[true, true, true, true, true, true, true, true, true, true, true, true, true, true, true, true, true, false] (by kernel_rfl) (by kernel_rfl) rfl (fun _ _ _ hS => YO.idx 89 1 ad1159 l918.length C920 .i64 a926 68 (by kernel_rfl) (by kernel_rfl) (by kernel_rfl) (by kernel_rfl) h1157 h1158) ?_
                refine ED.one 17 0 #[true, true, true, true, true, true, true, true, true, true, true, true, true, true, true, true, true, true] (by kernel_rfl) (by kernel_rfl) (by kernel_rfl) (EO.closeEl hS 1 2 ad1159 a926 rfl rfl h1157 l1178 hl1178 (Ass.own 96 kS96 (some ⟨g1238, 0, none⟩) 1 l1173 :: Ass.box 91 g917 [.slice (some ad1159) l918.length C920, .slice A923 l922.length C924] :: Ass.deep 94 96 kS96 (some ad1159) C920 l1178 :: Ass.own 3 (Kd.int .i64) A923 C924 l922 :: os) 94 (by kernel_rfl) (by kernel_rfl) (by kernel_rfl) (by kernel_rfl) rfl ?_)
                intro w hS
                have hS : St B w (Ass.own 96 kS96 (some ⟨g1238, 0, none⟩) 1 l1173 :: Ass.box 91 g917 [.slice (some ad1159) l1178.length C920, .slice A923 l922.length C924] :: Ass.deep 94 96 kS96 (some ad1159) C920 l1178 :: Ass.own 3 (Kd.int .i64) A923 C924 l922 :: os) (rs) := by simpa only [hl1178, List.length_set] using hS
                have hC : Core B [Ass.own 3 (Kd.int .i64) A923 C924 l922] [] _ := ⟨_, _, hS.re [3] [] rfl sub_self⟩
                refine ⟨hC, ?_⟩
                refine ED.keep [8, 9, 54, 55, 56, 59, 60, 61, 62, 65, 66, 68] [(8, .int .i32 t1162), (9, .bool (t1163)), (54, .pointer (some ⟨g917, 0, none⟩)), (55, .slice (some ad1159) l918.length C920), (56, .int .i64 a926), (59, .pointer (some ⟨g917, 0, none⟩)), (60, .slice (some ad1159) l918.length C920), (61, .int .i64 a926), (62, .pointer (some ((ad1159.add (a926.toNat * 1)).add 0))), (65, .agg #[.int .i64 a927, .int .i64 0, .int .i32 0, .int .i64 0]), (66, .slice (some ⟨g1238, 0, none⟩) l1173.length 1), (68, .pointer (some ((ad1159.add (a926.toNat * 1)).add 0)))] (by kernel_rfl) ?_
                refine ED.as' [(8, .int .i32 t1162), (9, .bool (t1163)), (54, .pointer (some ⟨g917, 0, none⟩)), (55, .slice (some ad1159) l1178.length C920), (56, .int .i64 a926), (59, .pointer (some ⟨g917, 0, none⟩)), (60, .slice (some ad1159) l1178.length C920), (61, .int .i64 a926), (62, .pointer (some ((ad1159.add (a926.toNat * 1)).add 0))), (65, .agg #[.int .i64 a927, .int .i64 0, .int .i32 0, .int .i64 0]), (66, .slice (some ⟨g1238, 0, none⟩) l1173.length 1), (68, .pointer (some ((ad1159.add (a926.toNat * 1)).add 0)))] (by simp only [hl1178, List.length_set]) ?_
                refine ED.done (by kernel_rfl) ?_
                refine EQ.to ?_
                refine EQ.keep [8, 9] [(8, .int .i32 t1162), (9, .bool (t1163))] (by kernel_rfl) ?_
                exact fun a ha => ⟨(some ⟨g1238, 0, none⟩), 1, ha, (hS.re [3, 3, 3, 3] [] rfl (sub_self))⟩
              · refine EO.append hS 94 94 96 32 1 kS96 A1160 C1161 (l918.getD a926.toNat []) rfl (some ⟨g1238, 0, none⟩) 1 l1173 (Rd.own 0 96 rfl) l1175 hl1175 (fun A1241 C1242 => Ass.own 96 kS96 (some ⟨g1238, 0, none⟩) 1 l1173 :: Ass.own 96 kS96 A1241 C1242 l1175 :: Ass.box 91 g917 [.slice (some ad1159) l918.length C920, .slice A923 l922.length C924] :: Ass.holed 94 96 kS96 (some ad1159) C920 l918 a926.toNat (A1160, (l918.getD a926.toNat []).length, C1161) :: Ass.own 3 (Kd.int .i64) A923 C924 l922 :: os) 67 (by kernel_rfl) (by kernel_rfl) (by kernel_rfl) (by kernel_rfl) h1174 (fun _ _ => rfl) ?_
                intro A1241 C1242 w hS
                have hC : Core B [Ass.own 3 (Kd.int .i64) A923 C924 l922] [] _ := ⟨_, _, hS.re [4] [] rfl sub_self⟩
                refine ⟨hC, ?_⟩
                refine ED.at' #[true, true, true, false, true, true, true, true, true, true, true, true, true, true, true, true, false, false] (by kernel_rfl) ?_
                refine ED.one 3 2 #[true, true, true, true, true, true, true, true, true, true, true, true, true, true, true, true, false, false] (by kernel_rfl) (by kernel_rfl) (by kernel_rfl) (EO.Y (YO.loadBox hS 2 rfl 89 0 1 (.slice (some ad1159) l918.length C920) 55 (by kernel_rfl) (by kernel_rfl) (by kernel_rfl) (by kernel_rfl)) ?_)
                have hC : Core B [Ass.own 3 (Kd.int .i64) A923 C924 l922] [] _ := ⟨_, _, hS.re [4] [] rfl sub_self⟩
                refine ⟨hC, ?_⟩
                refine ED.Y hN hF hC 16 1 #[true, true, true, true, true, true, true, true, true, true, true, true, true, true, true, true, true, false] (by kernel_rfl) (by kernel_rfl) rfl (fun _ _ _ hS => YO.idx 89 1 ad1159 l918.length C920 .i64 a926 68 (by kernel_rfl) (by kernel_rfl) (by kernel_rfl) (by kernel_rfl) h1157 h1158) ?_
                refine ED.one 17 0 #[true, true, true, true, true, true, true, true, true, true, true, true, true, true, true, true, true, true] (by kernel_rfl) (by kernel_rfl) (by kernel_rfl) (EO.closeEl hS 1 2 ad1159 a926 rfl rfl h1157 l1178 hl1178 (Ass.own 96 kS96 (some ⟨g1238, 0, none⟩) 1 l1173 :: Ass.box 91 g917 [.slice (some ad1159) l918.length C920, .slice A923 l922.length C924] :: Ass.deep 94 96 kS96 (some ad1159) C920 l1178 :: Ass.own 3 (Kd.int .i64) A923 C924 l922 :: os) 94 (by kernel_rfl) (by kernel_rfl) (by kernel_rfl) (by kernel_rfl) rfl ?_)
                intro w hS
                have hS : St B w (Ass.own 96 kS96 (some ⟨g1238, 0, none⟩) 1 l1173 :: Ass.box 91 g917 [.slice (some ad1159) l1178.length C920, .slice A923 l922.length C924] :: Ass.deep 94 96 kS96 (some ad1159) C920 l1178 :: Ass.own 3 (Kd.int .i64) A923 C924 l922 :: os) (rs) := by simpa only [hl1178, List.length_set] using hS
                have hC : Core B [Ass.own 3 (Kd.int .i64) A923 C924 l922] [] _ := ⟨_, _, hS.re [3] [] rfl sub_self⟩
                refine ⟨hC, ?_⟩
                refine ED.keep [8, 9, 54, 55, 56, 59, 60, 61, 62, 65, 66, 68] [(8, .int .i32 t1162), (9, .bool (t1163)), (54, .pointer (some ⟨g917, 0, none⟩)), (55, .slice (some ad1159) l918.length C920), (56, .int .i64 a926), (59, .pointer (some ⟨g917, 0, none⟩)), (60, .slice (some ad1159) l918.length C920), (61, .int .i64 a926), (62, .pointer (some ((ad1159.add (a926.toNat * 1)).add 0))), (65, .agg #[.int .i64 a927, .int .i64 0, .int .i32 0, .int .i64 0]), (66, .slice (some ⟨g1238, 0, none⟩) l1173.length 1), (68, .pointer (some ((ad1159.add (a926.toNat * 1)).add 0)))] (by kernel_rfl) ?_
                refine ED.as' [(8, .int .i32 t1162), (9, .bool (t1163)), (54, .pointer (some ⟨g917, 0, none⟩)), (55, .slice (some ad1159) l1178.length C920), (56, .int .i64 a926), (59, .pointer (some ⟨g917, 0, none⟩)), (60, .slice (some ad1159) l1178.length C920), (61, .int .i64 a926), (62, .pointer (some ((ad1159.add (a926.toNat * 1)).add 0))), (65, .agg #[.int .i64 a927, .int .i64 0, .int .i32 0, .int .i64 0]), (66, .slice (some ⟨g1238, 0, none⟩) l1173.length 1), (68, .pointer (some ((ad1159.add (a926.toNat * 1)).add 0)))] (by simp only [hl1178, List.length_set]) ?_
                refine ED.done (by kernel_rfl) ?_
                refine EQ.to ?_
                refine EQ.keep [8, 9] [(8, .int .i32 t1162), (9, .bool (t1163))] (by kernel_rfl) ?_
                exact fun a ha => ⟨(some ⟨g1238, 0, none⟩), 1, ha, (hS.re [3, 3, 3, 3] [] rfl (sub_self))⟩
          · refine EO.lit hS kS96 96 94 1 #[(0, .agg #[.int .i64 a927, .int .i64 0, .int .i32 0, .int .i64 0])] [.int .i64 a927, .int .i64 0, .int .i32 0, .int .i64 0] l1173 66 (by kernel_rfl) (by kernel_rfl) (by kernel_rfl) (fun _ => (by kernel_rfl)) (by rw [hl1173]; rfl) (by kernel_rfl) (fun w G hr => (by rw [hl1173]; exact ⟨[.int .i64 a927, .int .i64 0, .int .i32 0, .int .i64 0], [], rfl, ⟨[.int .i64 a927], [.int .i64 0, .int .i32 0, .int .i64 0], rfl, rfl, ⟨[.int .i64 0], [.int .i32 0, .int .i64 0], rfl, rfl, ⟨[.int .i32 0], [.int .i64 0], rfl, rfl, ⟨[.int .i64 0], [], rfl, rfl, rfl⟩⟩⟩⟩, rfl⟩)) ?_
            intro g1243 w hS
            have hC : Core B [Ass.own 3 (Kd.int .i64) A923 C924 l922] [] _ := ⟨_, _, hS.re [4] [] rfl sub_self⟩
            refine ⟨hC, ?_⟩
            refine ED.at' #[true, true, true, false, true, true, true, true, true, true, true, false, true, true, true, false, false, false] (by kernel_rfl) ?_
            refine ED.two 3 11 4 (by kernel_rfl) (by kernel_rfl) ?_ ?_
            · refine EO.Y (YO.loadBox hS 2 rfl 89 0 1 (.slice (some ad1159) l918.length C920) 55 (by kernel_rfl) (by kernel_rfl) (by kernel_rfl) (by kernel_rfl)) ?_
              have hC : Core B [Ass.own 3 (Kd.int .i64) A923 C924 l922] [] _ := ⟨_, _, hS.re [4] [] rfl sub_self⟩
              refine ⟨hC, ?_⟩
              refine ED.at' #[true, true, true, true, true, true, true, true, true, true, true, false, true, true, true, false, false, false] (by kernel_rfl) ?_
              refine ED.one 11 3 #[true, true, true, true, true, true, true, true, true, true, true, true, true, true, true, false, false, false] (by kernel_rfl) (by kernel_rfl) (by kernel_rfl) (EO.Y (YO.loadHole hS 3 ad1159 (j := a926) rfl h1157 94 63 (by kernel_rfl) (by kernel_rfl) (by kernel_rfl) (by kernel_rfl)) ?_)
              have hC : Core B [Ass.own 3 (Kd.int .i64) A923 C924 l922] [] _ := ⟨_, _, hS.re [4] [] rfl sub_self⟩
              refine ⟨hC, ?_⟩
              refine ED.one 15 2 #[true, true, true, true, true, true, true, true, true, true, true, true, true, true, true, true, false, false] (by kernel_rfl) (by kernel_rfl) (by kernel_rfl) (EO.append hS 94 94 96 32 1 kS96 A1160 C1161 (l918.getD a926.toNat []) rfl (some ⟨g1243, 0, none⟩) 1 l1173 (Rd.own 0 96 rfl) l1175 hl1175 (fun A1244 C1245 => Ass.own 96 kS96 (some ⟨g1243, 0, none⟩) 1 l1173 :: Ass.own 96 kS96 A1244 C1245 l1175 :: Ass.box 91 g917 [.slice (some ad1159) l918.length C920, .slice A923 l922.length C924] :: Ass.holed 94 96 kS96 (some ad1159) C920 l918 a926.toNat (A1160, (l918.getD a926.toNat []).length, C1161) :: Ass.own 3 (Kd.int .i64) A923 C924 l922 :: os) 67 (by kernel_rfl) (by kernel_rfl) (by kernel_rfl) (by kernel_rfl) h1174 (fun _ _ => rfl) ?_)
              intro A1244 C1245 w hS
              have hC : Core B [Ass.own 3 (Kd.int .i64) A923 C924 l922] [] _ := ⟨_, _, hS.re [4] [] rfl sub_self⟩
              refine ⟨hC, ?_⟩
              refine ED.Y hN hF hC 16 1 #[true, true, true, true, true, true, true, true, true, true, true, true, true, true, true, true, true, false] (by kernel_rfl) (by kernel_rfl) rfl (fun _ _ _ hS => YO.idx 89 1 ad1159 l918.length C920 .i64 a926 68 (by kernel_rfl) (by kernel_rfl) (by kernel_rfl) (by kernel_rfl) h1157 h1158) ?_
              refine ED.one 17 0 #[true, true, true, true, true, true, true, true, true, true, true, true, true, true, true, true, true, true] (by kernel_rfl) (by kernel_rfl) (by kernel_rfl) (EO.closeEl hS 1 2 ad1159 a926 rfl rfl h1157 l1178 hl1178 (Ass.own 96 kS96 (some ⟨g1243, 0, none⟩) 1 l1173 :: Ass.box 91 g917 [.slice (some ad1159) l918.length C920, .slice A923 l922.length C924] :: Ass.deep 94 96 kS96 (some ad1159) C920 l1178 :: Ass.own 3 (Kd.int .i64) A923 C924 l922 :: os) 94 (by kernel_rfl) (by kernel_rfl) (by kernel_rfl) (by kernel_rfl) rfl ?_)
              intro w hS
              have hS : St B w (Ass.own 96 kS96 (some ⟨g1243, 0, none⟩) 1 l1173 :: Ass.box 91 g917 [.slice (some ad1159) l1178.length C920, .slice A923 l922.length C924] :: Ass.deep 94 96 kS96 (some ad1159) C920 l1178 :: Ass.own 3 (Kd.int .i64) A923 C924 l922 :: os) (rs) := by simpa only [hl1178, List.length_set] using hS
              have hC : Core B [Ass.own 3 (Kd.int .i64) A923 C924 l922] [] _ := ⟨_, _, hS.re [3] [] rfl sub_self⟩
              refine ⟨hC, ?_⟩
              refine ED.keep [8, 9, 54, 55, 56, 59, 60, 61, 62, 65, 66, 68] [(8, .int .i32 t1162), (9, .bool (t1163)), (54, .pointer (some ⟨g917, 0, none⟩)), (55, .slice (some ad1159) l918.length C920), (56, .int .i64 a926), (59, .pointer (some ⟨g917, 0, none⟩)), (60, .slice (some ad1159) l918.length C920), (61, .int .i64 a926), (62, .pointer (some ((ad1159.add (a926.toNat * 1)).add 0))), (65, .agg #[.int .i64 a927, .int .i64 0, .int .i32 0, .int .i64 0]), (66, .slice (some ⟨g1243, 0, none⟩) l1173.length 1), (68, .pointer (some ((ad1159.add (a926.toNat * 1)).add 0)))] (by kernel_rfl) ?_
              refine ED.as' [(8, .int .i32 t1162), (9, .bool (t1163)), (54, .pointer (some ⟨g917, 0, none⟩)), (55, .slice (some ad1159) l1178.length C920), (56, .int .i64 a926), (59, .pointer (some ⟨g917, 0, none⟩)), (60, .slice (some ad1159) l1178.length C920), (61, .int .i64 a926), (62, .pointer (some ((ad1159.add (a926.toNat * 1)).add 0))), (65, .agg #[.int .i64 a927, .int .i64 0, .int .i32 0, .int .i64 0]), (66, .slice (some ⟨g1243, 0, none⟩) l1173.length 1), (68, .pointer (some ((ad1159.add (a926.toNat * 1)).add 0)))] (by simp only [hl1178, List.length_set]) ?_
              refine ED.done (by kernel_rfl) ?_
              refine EQ.to ?_
              refine EQ.keep [8, 9] [(8, .int .i32 t1162), (9, .bool (t1163))] (by kernel_rfl) ?_
              exact fun a ha => ⟨(some ⟨g1243, 0, none⟩), 1, ha, (hS.re [3, 3, 3, 3] [] rfl (sub_self))⟩
            · refine EO.Y (YO.loadHole hS 3 ad1159 (j := a926) rfl h1157 94 63 (by kernel_rfl) (by kernel_rfl) (by kernel_rfl) (by kernel_rfl)) ?_
              have hC : Core B [Ass.own 3 (Kd.int .i64) A923 C924 l922] [] _ := ⟨_, _, hS.re [4] [] rfl sub_self⟩
              refine ⟨hC, ?_⟩
              refine ED.at' #[true, true, true, false, true, true, true, true, true, true, true, true, true, true, true, false, false, false] (by kernel_rfl) ?_
              refine ED.two 3 15 3 (by kernel_rfl) (by kernel_rfl) ?_ ?_
              · refine EO.Y (YO.loadBox hS 2 rfl 89 0 1 (.slice (some ad1159) l918.length C920) 55 (by kernel_rfl) (by kernel_rfl) (by kernel_rfl) (by kernel_rfl)) ?_
                have hC : Core B [Ass.own 3 (Kd.int .i64) A923 C924 l922] [] _ := ⟨_, _, hS.re [4] [] rfl sub_self⟩
                refine ⟨hC, ?_⟩
                refine ED.at' #[true, true, true, true, true, true, true, true, true, true, true, true, true, true, true, false, false, false] (by kernel_rfl) ?_
                refine ED.one 15 2 #[true, true, true, true, true, true, true, true, true, true, true, true, true, true, true, true, false, false] (by kernel_rfl) (by kernel_rfl) (by kernel_rfl) (EO.append hS 94 94 96 32 1 kS96 A1160 C1161 (l918.getD a926.toNat []) rfl (some ⟨g1243, 0, none⟩) 1 l1173 (Rd.own 0 96 rfl) l1175 hl1175 (fun A1246 C1247 => Ass.own 96 kS96 (some ⟨g1243, 0, none⟩) 1 l1173 :: Ass.own 96 kS96 A1246 C1247 l1175 :: Ass.box 91 g917 [.slice (some ad1159) l918.length C920, .slice A923 l922.length C924] :: Ass.holed 94 96 kS96 (some ad1159) C920 l918 a926.toNat (A1160, (l918.getD a926.toNat []).length, C1161) :: Ass.own 3 (Kd.int .i64) A923 C924 l922 :: os) 67 (by kernel_rfl) (by kernel_rfl) (by kernel_rfl) (by kernel_rfl) h1174 (fun _ _ => rfl) ?_)
                intro A1246 C1247 w hS
                have hC : Core B [Ass.own 3 (Kd.int .i64) A923 C924 l922] [] _ := ⟨_, _, hS.re [4] [] rfl sub_self⟩
                refine ⟨hC, ?_⟩
                refine ED.Y hN hF hC 16 1 #[true, true, true, true, true, true, true, true, true, true, true, true, true, true, true, true, true, false] (by kernel_rfl) (by kernel_rfl) rfl (fun _ _ _ hS => YO.idx 89 1 ad1159 l918.length C920 .i64 a926 68 (by kernel_rfl) (by kernel_rfl) (by kernel_rfl) (by kernel_rfl) h1157 h1158) ?_
                refine ED.one 17 0 #[true, true, true, true, true, true, true, true, true, true, true, true, true, true, true, true, true, true] (by kernel_rfl) (by kernel_rfl) (by kernel_rfl) (EO.closeEl hS 1 2 ad1159 a926 rfl rfl h1157 l1178 hl1178 (Ass.own 96 kS96 (some ⟨g1243, 0, none⟩) 1 l1173 :: Ass.box 91 g917 [.slice (some ad1159) l918.length C920, .slice A923 l922.length C924] :: Ass.deep 94 96 kS96 (some ad1159) C920 l1178 :: Ass.own 3 (Kd.int .i64) A923 C924 l922 :: os) 94 (by kernel_rfl) (by kernel_rfl) (by kernel_rfl) (by kernel_rfl) rfl ?_)
                intro w hS
                have hS : St B w (Ass.own 96 kS96 (some ⟨g1243, 0, none⟩) 1 l1173 :: Ass.box 91 g917 [.slice (some ad1159) l1178.length C920, .slice A923 l922.length C924] :: Ass.deep 94 96 kS96 (some ad1159) C920 l1178 :: Ass.own 3 (Kd.int .i64) A923 C924 l922 :: os) (rs) := by simpa only [hl1178, List.length_set] using hS
                have hC : Core B [Ass.own 3 (Kd.int .i64) A923 C924 l922] [] _ := ⟨_, _, hS.re [3] [] rfl sub_self⟩
                refine ⟨hC, ?_⟩
                refine ED.keep [8, 9, 54, 55, 56, 59, 60, 61, 62, 65, 66, 68] [(8, .int .i32 t1162), (9, .bool (t1163)), (54, .pointer (some ⟨g917, 0, none⟩)), (55, .slice (some ad1159) l918.length C920), (56, .int .i64 a926), (59, .pointer (some ⟨g917, 0, none⟩)), (60, .slice (some ad1159) l918.length C920), (61, .int .i64 a926), (62, .pointer (some ((ad1159.add (a926.toNat * 1)).add 0))), (65, .agg #[.int .i64 a927, .int .i64 0, .int .i32 0, .int .i64 0]), (66, .slice (some ⟨g1243, 0, none⟩) l1173.length 1), (68, .pointer (some ((ad1159.add (a926.toNat * 1)).add 0)))] (by kernel_rfl) ?_
                refine ED.as' [(8, .int .i32 t1162), (9, .bool (t1163)), (54, .pointer (some ⟨g917, 0, none⟩)), (55, .slice (some ad1159) l1178.length C920), (56, .int .i64 a926), (59, .pointer (some ⟨g917, 0, none⟩)), (60, .slice (some ad1159) l1178.length C920), (61, .int .i64 a926), (62, .pointer (some ((ad1159.add (a926.toNat * 1)).add 0))), (65, .agg #[.int .i64 a927, .int .i64 0, .int .i32 0, .int .i64 0]), (66, .slice (some ⟨g1243, 0, none⟩) l1173.length 1), (68, .pointer (some ((ad1159.add (a926.toNat * 1)).add 0)))] (by simp only [hl1178, List.length_set]) ?_
                refine ED.done (by kernel_rfl) ?_
                refine EQ.to ?_
                refine EQ.keep [8, 9] [(8, .int .i32 t1162), (9, .bool (t1163))] (by kernel_rfl) ?_
                exact fun a ha => ⟨(some ⟨g1243, 0, none⟩), 1, ha, (hS.re [3, 3, 3, 3] [] rfl (sub_self))⟩
              · refine EO.append hS 94 94 96 32 1 kS96 A1160 C1161 (l918.getD a926.toNat []) rfl (some ⟨g1243, 0, none⟩) 1 l1173 (Rd.own 0 96 rfl) l1175 hl1175 (fun A1248 C1249 => Ass.own 96 kS96 (some ⟨g1243, 0, none⟩) 1 l1173 :: Ass.own 96 kS96 A1248 C1249 l1175 :: Ass.box 91 g917 [.slice (some ad1159) l918.length C920, .slice A923 l922.length C924] :: Ass.holed 94 96 kS96 (some ad1159) C920 l918 a926.toNat (A1160, (l918.getD a926.toNat []).length, C1161) :: Ass.own 3 (Kd.int .i64) A923 C924 l922 :: os) 67 (by kernel_rfl) (by kernel_rfl) (by kernel_rfl) (by kernel_rfl) h1174 (fun _ _ => rfl) ?_
                intro A1248 C1249 w hS
                have hC : Core B [Ass.own 3 (Kd.int .i64) A923 C924 l922] [] _ := ⟨_, _, hS.re [4] [] rfl sub_self⟩
                refine ⟨hC, ?_⟩
                refine ED.at' #[true, true, true, false, true, true, true, true, true, true, true, true, true, true, true, true, false, false] (by kernel_rfl) ?_
                refine ED.one 3 2 #[true, true, true, true, true, true, true, true, true, true, true, true, true, true, true, true, false, false] (by kernel_rfl) (by kernel_rfl) (by kernel_rfl) (EO.Y (YO.loadBox hS 2 rfl 89 0 1 (.slice (some ad1159) l918.length C920) 55 (by kernel_rfl) (by kernel_rfl) (by kernel_rfl) (by kernel_rfl)) ?_)
                have hC : Core B [Ass.own 3 (Kd.int .i64) A923 C924 l922] [] _ := ⟨_, _, hS.re [4] [] rfl sub_self⟩
                refine ⟨hC, ?_⟩
                refine ED.Y hN hF hC 16 1 #[true, true, true, true, true, true, true, true, true, true, true, true, true, true, true, true, true, false] (by kernel_rfl) (by kernel_rfl) rfl (fun _ _ _ hS => YO.idx 89 1 ad1159 l918.length C920 .i64 a926 68 (by kernel_rfl) (by kernel_rfl) (by kernel_rfl) (by kernel_rfl) h1157 h1158) ?_
                refine ED.one 17 0 #[true, true, true, true, true, true, true, true, true, true, true, true, true, true, true, true, true, true] (by kernel_rfl) (by kernel_rfl) (by kernel_rfl) (EO.closeEl hS 1 2 ad1159 a926 rfl rfl h1157 l1178 hl1178 (Ass.own 96 kS96 (some ⟨g1243, 0, none⟩) 1 l1173 :: Ass.box 91 g917 [.slice (some ad1159) l918.length C920, .slice A923 l922.length C924] :: Ass.deep 94 96 kS96 (some ad1159) C920 l1178 :: Ass.own 3 (Kd.int .i64) A923 C924 l922 :: os) 94 (by kernel_rfl) (by kernel_rfl) (by kernel_rfl) (by kernel_rfl) rfl ?_)
                intro w hS
                have hS : St B w (Ass.own 96 kS96 (some ⟨g1243, 0, none⟩) 1 l1173 :: Ass.box 91 g917 [.slice (some ad1159) l1178.length C920, .slice A923 l922.length C924] :: Ass.deep 94 96 kS96 (some ad1159) C920 l1178 :: Ass.own 3 (Kd.int .i64) A923 C924 l922 :: os) (rs) := by simpa only [hl1178, List.length_set] using hS
                have hC : Core B [Ass.own 3 (Kd.int .i64) A923 C924 l922] [] _ := ⟨_, _, hS.re [3] [] rfl sub_self⟩
                refine ⟨hC, ?_⟩
                refine ED.keep [8, 9, 54, 55, 56, 59, 60, 61, 62, 65, 66, 68] [(8, .int .i32 t1162), (9, .bool (t1163)), (54, .pointer (some ⟨g917, 0, none⟩)), (55, .slice (some ad1159) l918.length C920), (56, .int .i64 a926), (59, .pointer (some ⟨g917, 0, none⟩)), (60, .slice (some ad1159) l918.length C920), (61, .int .i64 a926), (62, .pointer (some ((ad1159.add (a926.toNat * 1)).add 0))), (65, .agg #[.int .i64 a927, .int .i64 0, .int .i32 0, .int .i64 0]), (66, .slice (some ⟨g1243, 0, none⟩) l1173.length 1), (68, .pointer (some ((ad1159.add (a926.toNat * 1)).add 0)))] (by kernel_rfl) ?_
                refine ED.as' [(8, .int .i32 t1162), (9, .bool (t1163)), (54, .pointer (some ⟨g917, 0, none⟩)), (55, .slice (some ad1159) l1178.length C920), (56, .int .i64 a926), (59, .pointer (some ⟨g917, 0, none⟩)), (60, .slice (some ad1159) l1178.length C920), (61, .int .i64 a926), (62, .pointer (some ((ad1159.add (a926.toNat * 1)).add 0))), (65, .agg #[.int .i64 a927, .int .i64 0, .int .i32 0, .int .i64 0]), (66, .slice (some ⟨g1243, 0, none⟩) l1173.length 1), (68, .pointer (some ((ad1159.add (a926.toNat * 1)).add 0)))] (by simp only [hl1178, List.length_set]) ?_
                refine ED.done (by kernel_rfl) ?_
                refine EQ.to ?_
                refine EQ.keep [8, 9] [(8, .int .i32 t1162), (9, .bool (t1163))] (by kernel_rfl) ?_
                exact fun a ha => ⟨(some ⟨g1243, 0, none⟩), 1, ha, (hS.re [3, 3, 3, 3] [] rfl (sub_self))⟩
        · refine EO.lit hS kS96 96 94 1 #[(0, .agg #[.int .i64 a927, .int .i64 0, .int .i32 0, .int .i64 0])] [.int .i64 a927, .int .i64 0, .int .i32 0, .int .i64 0] l1173 66 (by kernel_rfl) (by kernel_rfl) (by kernel_rfl) (fun _ => (by kernel_rfl)) (by rw [hl1173]; rfl) (by kernel_rfl) (fun w G hr => (by rw [hl1173]; exact ⟨[.int .i64 a927, .int .i64 0, .int .i32 0, .int .i64 0], [], rfl, ⟨[.int .i64 a927], [.int .i64 0, .int .i32 0, .int .i64 0], rfl, rfl, ⟨[.int .i64 0], [.int .i32 0, .int .i64 0], rfl, rfl, ⟨[.int .i32 0], [.int .i64 0], rfl, rfl, ⟨[.int .i64 0], [], rfl, rfl, rfl⟩⟩⟩⟩, rfl⟩)) ?_
          intro g1250 w hS
          have hC : Core B [Ass.own 3 (Kd.int .i64) A923 C924 l922] [] _ := ⟨_, _, hS.re [4] [] rfl sub_self⟩
          refine ⟨hC, ?_⟩
          refine ED.at' #[true, true, true, false, true, true, true, true, false, true, false, false, true, true, true, false, false, false] (by kernel_rfl) ?_
          refine ED.two 3 8 6 (by kernel_rfl) (by kernel_rfl) ?_ ?_
          · refine EO.Y (YO.loadBox hS 2 rfl 89 0 1 (.slice (some ad1159) l918.length C920) 55 (by kernel_rfl) (by kernel_rfl) (by kernel_rfl) (by kernel_rfl)) ?_
            have hC : Core B [Ass.own 3 (Kd.int .i64) A923 C924 l922] [] _ := ⟨_, _, hS.re [4] [] rfl sub_self⟩
            refine ⟨hC, ?_⟩
            refine ED.at' #[true, true, true, true, true, true, true, true, false, true, false, false, true, true, true, false, false, false] (by kernel_rfl) ?_
            refine ED.one 8 5 #[true, true, true, true, true, true, true, true, true, true, false, false, true, true, true, false, false, false] (by kernel_rfl) (by kernel_rfl) (by kernel_rfl) (EO.Y (YO.loadBox hS 2 rfl 89 0 1 (.slice (some ad1159) l918.length C920) 60 (by kernel_rfl) (by kernel_rfl) (by kernel_rfl) (by kernel_rfl)) ?_)
            have hC : Core B [Ass.own 3 (Kd.int .i64) A923 C924 l922] [] _ := ⟨_, _, hS.re [4] [] rfl sub_self⟩
            refine ⟨hC, ?_⟩
            refine ED.Y hN hF hC 10 4 #[true, true, true, true, true, true, true, true, true, true, true, false, true, true, true, false, false, false] (by kernel_rfl) (by kernel_rfl) rfl (fun _ _ _ hS => YO.idx 89 1 ad1159 l918.length C920 .i64 a926 62 (by kernel_rfl) (by kernel_rfl) (by kernel_rfl) (by kernel_rfl) h1157 h1158) ?_
            refine ED.one 11 3 #[true, true, true, true, true, true, true, true, true, true, true, true, true, true, true, false, false, false] (by kernel_rfl) (by kernel_rfl) (by kernel_rfl) (EO.Y (YO.loadHole hS 3 ad1159 (j := a926) rfl h1157 94 63 (by kernel_rfl) (by kernel_rfl) (by kernel_rfl) (by kernel_rfl)) ?_)
            have hC : Core B [Ass.own 3 (Kd.int .i64) A923 C924 l922] [] _ := ⟨_, _, hS.re [4] [] rfl sub_self⟩
            refine ⟨hC, ?_⟩
            refine ED.one 15 2 #[true, true, true, true, true, true, true, true, true, true, true, true, true, true, true, true, false, false] (by kernel_rfl) (by kernel_rfl) (by kernel_rfl) (EO.append hS 94 94 96 32 1 kS96 A1160 C1161 (l918.getD a926.toNat []) rfl (some ⟨g1250, 0, none⟩) 1 l1173 (Rd.own 0 96 rfl) l1175 hl1175 (fun A1251 C1252 => Ass.own 96 kS96 (some ⟨g1250, 0, none⟩) 1 l1173 :: Ass.own 96 kS96 A1251 C1252 l1175 :: Ass.box 91 g917 [.slice (some ad1159) l918.length C920, .slice A923 l922.length C924] :: Ass.holed 94 96 kS96 (some ad1159) C920 l918 a926.toNat (A1160, (l918.getD a926.toNat []).length, C1161) :: Ass.own 3 (Kd.int .i64) A923 C924 l922 :: os) 67 (by kernel_rfl) (by kernel_rfl) (by kernel_rfl) (by kernel_rfl) h1174 (fun _ _ => rfl) ?_)
            intro A1251 C1252 w hS
            have hC : Core B [Ass.own 3 (Kd.int .i64) A923 C924 l922] [] _ := ⟨_, _, hS.re [4] [] rfl sub_self⟩
            refine ⟨hC, ?_⟩
            refine ED.Y hN hF hC 16 1 #[true, true, true, true, true, true, true, true, true, true, true, true, true, true, true, true, true, false] (by kernel_rfl) (by kernel_rfl) rfl (fun _ _ _ hS => YO.idx 89 1 ad1159 l918.length C920 .i64 a926 68 (by kernel_rfl) (by kernel_rfl) (by kernel_rfl) (by kernel_rfl) h1157 h1158) ?_
            refine ED.one 17 0 #[true, true, true, true, true, true, true, true, true, true, true, true, true, true, true, true, true, true] (by kernel_rfl) (by kernel_rfl) (by kernel_rfl) (EO.closeEl hS 1 2 ad1159 a926 rfl rfl h1157 l1178 hl1178 (Ass.own 96 kS96 (some ⟨g1250, 0, none⟩) 1 l1173 :: Ass.box 91 g917 [.slice (some ad1159) l918.length C920, .slice A923 l922.length C924] :: Ass.deep 94 96 kS96 (some ad1159) C920 l1178 :: Ass.own 3 (Kd.int .i64) A923 C924 l922 :: os) 94 (by kernel_rfl) (by kernel_rfl) (by kernel_rfl) (by kernel_rfl) rfl ?_)
            intro w hS
            have hS : St B w (Ass.own 96 kS96 (some ⟨g1250, 0, none⟩) 1 l1173 :: Ass.box 91 g917 [.slice (some ad1159) l1178.length C920, .slice A923 l922.length C924] :: Ass.deep 94 96 kS96 (some ad1159) C920 l1178 :: Ass.own 3 (Kd.int .i64) A923 C924 l922 :: os) (rs) := by simpa only [hl1178, List.length_set] using hS
            have hC : Core B [Ass.own 3 (Kd.int .i64) A923 C924 l922] [] _ := ⟨_, _, hS.re [3] [] rfl sub_self⟩
            refine ⟨hC, ?_⟩
            refine ED.keep [8, 9, 54, 55, 56, 59, 60, 61, 62, 65, 66, 68] [(8, .int .i32 t1162), (9, .bool (t1163)), (54, .pointer (some ⟨g917, 0, none⟩)), (55, .slice (some ad1159) l918.length C920), (56, .int .i64 a926), (59, .pointer (some ⟨g917, 0, none⟩)), (60, .slice (some ad1159) l918.length C920), (61, .int .i64 a926), (62, .pointer (some ((ad1159.add (a926.toNat * 1)).add 0))), (65, .agg #[.int .i64 a927, .int .i64 0, .int .i32 0, .int .i64 0]), (66, .slice (some ⟨g1250, 0, none⟩) l1173.length 1), (68, .pointer (some ((ad1159.add (a926.toNat * 1)).add 0)))] (by kernel_rfl) ?_
            refine ED.as' [(8, .int .i32 t1162), (9, .bool (t1163)), (54, .pointer (some ⟨g917, 0, none⟩)), (55, .slice (some ad1159) l1178.length C920), (56, .int .i64 a926), (59, .pointer (some ⟨g917, 0, none⟩)), (60, .slice (some ad1159) l1178.length C920), (61, .int .i64 a926), (62, .pointer (some ((ad1159.add (a926.toNat * 1)).add 0))), (65, .agg #[.int .i64 a927, .int .i64 0, .int .i32 0, .int .i64 0]), (66, .slice (some ⟨g1250, 0, none⟩) l1173.length 1), (68, .pointer (some ((ad1159.add (a926.toNat * 1)).add 0)))] (by simp only [hl1178, List.length_set]) ?_
            refine ED.done (by kernel_rfl) ?_
            refine EQ.to ?_
            refine EQ.keep [8, 9] [(8, .int .i32 t1162), (9, .bool (t1163))] (by kernel_rfl) ?_
            exact fun a ha => ⟨(some ⟨g1250, 0, none⟩), 1, ha, (hS.re [3, 3, 3, 3] [] rfl (sub_self))⟩
          · refine EO.Y (YO.loadBox hS 2 rfl 89 0 1 (.slice (some ad1159) l918.length C920) 60 (by kernel_rfl) (by kernel_rfl) (by kernel_rfl) (by kernel_rfl)) ?_
            have hC : Core B [Ass.own 3 (Kd.int .i64) A923 C924 l922] [] _ := ⟨_, _, hS.re [4] [] rfl sub_self⟩
            refine ⟨hC, ?_⟩
            refine ED.at' #[true, true, true, false, true, true, true, true, true, true, false, false, true, true, true, false, false, false] (by kernel_rfl) ?_
            refine ED.Y hN hF hC 10 5 #[true, true, true, false, true, true, true, true, true, true, true, false, true, true, true, false, false, false] (by kernel_rfl) (by kernel_rfl) rfl (fun _ _ _ hS => YO.idx 89 1 ad1159 l918.length C920 .i64 a926 62 (by kernel_rfl) (by kernel_rfl) (by kernel_rfl) (by kernel_rfl) h1157 h1158) ?_
            refine ED.two 3 11 4 (by kernel_rfl) (by kernel_rfl) ?_ ?_
            · refine EO.Y (YO.loadBox hS 2 rfl 89 0 1 (.slice (some ad1159) l918.length C920) 55 (by kernel_rfl) (by kernel_rfl) (by kernel_rfl) (by kernel_rfl)) ?_
              have hC : Core B [Ass.own 3 (Kd.int .i64) A923 C924 l922] [] _ := ⟨_, _, hS.re [4] [] rfl sub_self⟩
              refine ⟨hC, ?_⟩
              refine ED.at' #[true, true, true, true, true, true, true, true, true, true, true, false, true, true, true, false, false, false] (by kernel_rfl) ?_
              refine ED.one 11 3 #[true, true, true, true, true, true, true, true, true, true, true, true, true, true, true, false, false, false] (by kernel_rfl) (by kernel_rfl) (by kernel_rfl) (EO.Y (YO.loadHole hS 3 ad1159 (j := a926) rfl h1157 94 63 (by kernel_rfl) (by kernel_rfl) (by kernel_rfl) (by kernel_rfl)) ?_)
              have hC : Core B [Ass.own 3 (Kd.int .i64) A923 C924 l922] [] _ := ⟨_, _, hS.re [4] [] rfl sub_self⟩
              refine ⟨hC, ?_⟩
              refine ED.one 15 2 #[true, true, true, true, true, true, true, true, true, true, true, true, true, true, true, true, false, false] (by kernel_rfl) (by kernel_rfl) (by kernel_rfl) (EO.append hS 94 94 96 32 1 kS96 A1160 C1161 (l918.getD a926.toNat []) rfl (some ⟨g1250, 0, none⟩) 1 l1173 (Rd.own 0 96 rfl) l1175 hl1175 (fun A1253 C1254 => Ass.own 96 kS96 (some ⟨g1250, 0, none⟩) 1 l1173 :: Ass.own 96 kS96 A1253 C1254 l1175 :: Ass.box 91 g917 [.slice (some ad1159) l918.length C920, .slice A923 l922.length C924] :: Ass.holed 94 96 kS96 (some ad1159) C920 l918 a926.toNat (A1160, (l918.getD a926.toNat []).length, C1161) :: Ass.own 3 (Kd.int .i64) A923 C924 l922 :: os) 67 (by kernel_rfl) (by kernel_rfl) (by kernel_rfl) (by kernel_rfl) h1174 (fun _ _ => rfl) ?_)
              intro A1253 C1254 w hS
              have hC : Core B [Ass.own 3 (Kd.int .i64) A923 C924 l922] [] _ := ⟨_, _, hS.re [4] [] rfl sub_self⟩
              refine ⟨hC, ?_⟩
              refine ED.Y hN hF hC 16 1 #[true, true, true, true, true, true, true, true, true, true, true, true, true, true, true, true, true, false] (by kernel_rfl) (by kernel_rfl) rfl (fun _ _ _ hS => YO.idx 89 1 ad1159 l918.length C920 .i64 a926 68 (by kernel_rfl) (by kernel_rfl) (by kernel_rfl) (by kernel_rfl) h1157 h1158) ?_
              refine ED.one 17 0 #[true, true, true, true, true, true, true, true, true, true, true, true, true, true, true, true, true, true] (by kernel_rfl) (by kernel_rfl) (by kernel_rfl) (EO.closeEl hS 1 2 ad1159 a926 rfl rfl h1157 l1178 hl1178 (Ass.own 96 kS96 (some ⟨g1250, 0, none⟩) 1 l1173 :: Ass.box 91 g917 [.slice (some ad1159) l918.length C920, .slice A923 l922.length C924] :: Ass.deep 94 96 kS96 (some ad1159) C920 l1178 :: Ass.own 3 (Kd.int .i64) A923 C924 l922 :: os) 94 (by kernel_rfl) (by kernel_rfl) (by kernel_rfl) (by kernel_rfl) rfl ?_)
              intro w hS
              have hS : St B w (Ass.own 96 kS96 (some ⟨g1250, 0, none⟩) 1 l1173 :: Ass.box 91 g917 [.slice (some ad1159) l1178.length C920, .slice A923 l922.length C924] :: Ass.deep 94 96 kS96 (some ad1159) C920 l1178 :: Ass.own 3 (Kd.int .i64) A923 C924 l922 :: os) (rs) := by simpa only [hl1178, List.length_set] using hS
              have hC : Core B [Ass.own 3 (Kd.int .i64) A923 C924 l922] [] _ := ⟨_, _, hS.re [3] [] rfl sub_self⟩
              refine ⟨hC, ?_⟩
              refine ED.keep [8, 9, 54, 55, 56, 59, 60, 61, 62, 65, 66, 68] [(8, .int .i32 t1162), (9, .bool (t1163)), (54, .pointer (some ⟨g917, 0, none⟩)), (55, .slice (some ad1159) l918.length C920), (56, .int .i64 a926), (59, .pointer (some ⟨g917, 0, none⟩)), (60, .slice (some ad1159) l918.length C920), (61, .int .i64 a926), (62, .pointer (some ((ad1159.add (a926.toNat * 1)).add 0))), (65, .agg #[.int .i64 a927, .int .i64 0, .int .i32 0, .int .i64 0]), (66, .slice (some ⟨g1250, 0, none⟩) l1173.length 1), (68, .pointer (some ((ad1159.add (a926.toNat * 1)).add 0)))] (by kernel_rfl) ?_
              refine ED.as' [(8, .int .i32 t1162), (9, .bool (t1163)), (54, .pointer (some ⟨g917, 0, none⟩)), (55, .slice (some ad1159) l1178.length C920), (56, .int .i64 a926), (59, .pointer (some ⟨g917, 0, none⟩)), (60, .slice (some ad1159) l1178.length C920), (61, .int .i64 a926), (62, .pointer (some ((ad1159.add (a926.toNat * 1)).add 0))), (65, .agg #[.int .i64 a927, .int .i64 0, .int .i32 0, .int .i64 0]), (66, .slice (some ⟨g1250, 0, none⟩) l1173.length 1), (68, .pointer (some ((ad1159.add (a926.toNat * 1)).add 0)))] (by simp only [hl1178, List.length_set]) ?_
              refine ED.done (by kernel_rfl) ?_
              refine EQ.to ?_
              refine EQ.keep [8, 9] [(8, .int .i32 t1162), (9, .bool (t1163))] (by kernel_rfl) ?_
              exact fun a ha => ⟨(some ⟨g1250, 0, none⟩), 1, ha, (hS.re [3, 3, 3, 3] [] rfl (sub_self))⟩
            · refine EO.Y (YO.loadHole hS 3 ad1159 (j := a926) rfl h1157 94 63 (by kernel_rfl) (by kernel_rfl) (by kernel_rfl) (by kernel_rfl)) ?_
              have hC : Core B [Ass.own 3 (Kd.int .i64) A923 C924 l922] [] _ := ⟨_, _, hS.re [4] [] rfl sub_self⟩
              refine ⟨hC, ?_⟩
              refine ED.at' #[true, true, true, false, true, true, true, true, true, true, true, true, true, true, true, false, false, false] (by kernel_rfl) ?_
              refine ED.two 3 15 3 (by kernel_rfl) (by kernel_rfl) ?_ ?_
              · refine EO.Y (YO.loadBox hS 2 rfl 89 0 1 (.slice (some ad1159) l918.length C920) 55 (by kernel_rfl) (by kernel_rfl) (by kernel_rfl) (by kernel_rfl)) ?_
                have hC : Core B [Ass.own 3 (Kd.int .i64) A923 C924 l922] [] _ := ⟨_, _, hS.re [4] [] rfl sub_self⟩
                refine ⟨hC, ?_⟩
                refine ED.at' #[true, true, true, true, true, true, true, true, true, true, true, true, true, true, true, false, false, false] (by kernel_rfl) ?_
                refine ED.one 15 2 #[true, true, true, true, true, true, true, true, true, true, true, true, true, true, true, true, false, false] (by kernel_rfl) (by kernel_rfl) (by kernel_rfl) (EO.append hS 94 94 96 32 1 kS96 A1160 C1161 (l918.getD a926.toNat []) rfl (some ⟨g1250, 0, none⟩) 1 l1173 (Rd.own 0 96 rfl) l1175 hl1175 (fun A1255 C1256 => Ass.own 96 kS96 (some ⟨g1250, 0, none⟩) 1 l1173 :: Ass.own 96 kS96 A1255 C1256 l1175 :: Ass.box 91 g917 [.slice (some ad1159) l918.length C920, .slice A923 l922.length C924] :: Ass.holed 94 96 kS96 (some ad1159) C920 l918 a926.toNat (A1160, (l918.getD a926.toNat []).length, C1161) :: Ass.own 3 (Kd.int .i64) A923 C924 l922 :: os) 67 (by kernel_rfl) (by kernel_rfl) (by kernel_rfl) (by kernel_rfl) h1174 (fun _ _ => rfl) ?_)
                intro A1255 C1256 w hS
                have hC : Core B [Ass.own 3 (Kd.int .i64) A923 C924 l922] [] _ := ⟨_, _, hS.re [4] [] rfl sub_self⟩
                refine ⟨hC, ?_⟩
                refine ED.Y hN hF hC 16 1 #[true, true, true, true, true, true, true, true, true, true, true, true, true, true, true, true, true, false] (by kernel_rfl) (by kernel_rfl) rfl (fun _ _ _ hS => YO.idx 89 1 ad1159 l918.length C920 .i64 a926 68 (by kernel_rfl) (by kernel_rfl) (by kernel_rfl) (by kernel_rfl) h1157 h1158) ?_
                refine ED.one 17 0 #[true, true, true, true, true, true, true, true, true, true, true, true, true, true, true, true, true, true] (by kernel_rfl) (by kernel_rfl) (by kernel_rfl) (EO.closeEl hS 1 2 ad1159 a926 rfl rfl h1157 l1178 hl1178 (Ass.own 96 kS96 (some ⟨g1250, 0, none⟩) 1 l1173 :: Ass.box 91 g917 [.slice (some ad1159) l918.length C920, .slice A923 l922.length C924] :: Ass.deep 94 96 kS96 (some ad1159) C920 l1178 :: Ass.own 3 (Kd.int .i64) A923 C924 l922 :: os) 94 (by kernel_rfl) (by kernel_rfl) (by kernel_rfl) (by kernel_rfl) rfl ?_)
                intro w hS
                have hS : St B w (Ass.own 96 kS96 (some ⟨g1250, 0, none⟩) 1 l1173 :: Ass.box 91 g917 [.slice (some ad1159) l1178.length C920, .slice A923 l922.length C924] :: Ass.deep 94 96 kS96 (some ad1159) C920 l1178 :: Ass.own 3 (Kd.int .i64) A923 C924 l922 :: os) (rs) := by simpa only [hl1178, List.length_set] using hS
                have hC : Core B [Ass.own 3 (Kd.int .i64) A923 C924 l922] [] _ := ⟨_, _, hS.re [3] [] rfl sub_self⟩
                refine ⟨hC, ?_⟩
                refine ED.keep [8, 9, 54, 55, 56, 59, 60, 61, 62, 65, 66, 68] [(8, .int .i32 t1162), (9, .bool (t1163)), (54, .pointer (some ⟨g917, 0, none⟩)), (55, .slice (some ad1159) l918.length C920), (56, .int .i64 a926), (59, .pointer (some ⟨g917, 0, none⟩)), (60, .slice (some ad1159) l918.length C920), (61, .int .i64 a926), (62, .pointer (some ((ad1159.add (a926.toNat * 1)).add 0))), (65, .agg #[.int .i64 a927, .int .i64 0, .int .i32 0, .int .i64 0]), (66, .slice (some ⟨g1250, 0, none⟩) l1173.length 1), (68, .pointer (some ((ad1159.add (a926.toNat * 1)).add 0)))] (by kernel_rfl) ?_
                refine ED.as' [(8, .int .i32 t1162), (9, .bool (t1163)), (54, .pointer (some ⟨g917, 0, none⟩)), (55, .slice (some ad1159) l1178.length C920), (56, .int .i64 a926), (59, .pointer (some ⟨g917, 0, none⟩)), (60, .slice (some ad1159) l1178.length C920), (61, .int .i64 a926), (62, .pointer (some ((ad1159.add (a926.toNat * 1)).add 0))), (65, .agg #[.int .i64 a927, .int .i64 0, .int .i32 0, .int .i64 0]), (66, .slice (some ⟨g1250, 0, none⟩) l1173.length 1), (68, .pointer (some ((ad1159.add (a926.toNat * 1)).add 0)))] (by simp only [hl1178, List.length_set]) ?_
                refine ED.done (by kernel_rfl) ?_
                refine EQ.to ?_
                refine EQ.keep [8, 9] [(8, .int .i32 t1162), (9, .bool (t1163))] (by kernel_rfl) ?_
                exact fun a ha => ⟨(some ⟨g1250, 0, none⟩), 1, ha, (hS.re [3, 3, 3, 3] [] rfl (sub_self))⟩
              · refine EO.append hS 94 94 96 32 1 kS96 A1160 C1161 (l918.getD a926.toNat []) rfl (some ⟨g1250, 0, none⟩) 1 l1173 (Rd.own 0 96 rfl) l1175 hl1175 (fun A1257 C1258 => Ass.own 96 kS96 (some ⟨g1250, 0, none⟩) 1 l1173 :: Ass.own 96 kS96 A1257 C1258 l1175 :: Ass.box 91 g917 [.slice (some ad1159) l918.length C920, .slice A923 l922.length C924] :: Ass.holed 94 96 kS96 (some ad1159) C920 l918 a926.toNat (A1160, (l918.getD a926.toNat []).length, C1161) :: Ass.own 3 (Kd.int .i64) A923 C924 l922 :: os) 67 (by kernel_rfl) (by kernel_rfl) (by kernel_rfl) (by kernel_rfl) h1174 (fun _ _ => rfl) ?_
                intro A1257 C1258 w hS
                have hC : Core B [Ass.own 3 (Kd.int .i64) A923 C924 l922] [] _ := ⟨_, _, hS.re [4] [] rfl sub_self⟩
                refine ⟨hC, ?_⟩
                refine ED.at' #[true, true, true, false, true, true, true, true, true, true, true, true, true, true, true, true, false, false] (by kernel_rfl) ?_
                refine ED.one 3 2 #[true, true, true, true, true, true, true, true, true, true, true, true, true, true, true, true, false, false] (by kernel_rfl) (by kernel_rfl) (by kernel_rfl) (EO.Y (YO.loadBox hS 2 rfl 89 0 1 (.slice (some ad1159) l918.length C920) 55 (by kernel_rfl) (by kernel_rfl) (by kernel_rfl) (by kernel_rfl)) ?_)
                have hC : Core B [Ass.own 3 (Kd.int .i64) A923 C924 l922] [] _ := ⟨_, _, hS.re [4] [] rfl sub_self⟩
                refine ⟨hC, ?_⟩
                refine ED.Y hN hF hC 16 1 #[true, true, true, true, true, true, true, true, true, true, true, true, true, true, true, true, true, false] (by kernel_rfl) (by kernel_rfl) rfl (fun _ _ _ hS => YO.idx 89 1 ad1159 l918.length C920 .i64 a926 68 (by kernel_rfl) (by kernel_rfl) (by kernel_rfl) (by kernel_rfl) h1157 h1158) ?_
                refine ED.one 17 0 #[true, true, true, true, true, true, true, true, true, true, true, true, true, true, true, true, true, true] (by kernel_rfl) (by kernel_rfl) (by kernel_rfl) (EO.closeEl hS 1 2 ad1159 a926 rfl rfl h1157 l1178 hl1178 (Ass.own 96 kS96 (some ⟨g1250, 0, none⟩) 1 l1173 :: Ass.box 91 g917 [.slice (some ad1159) l918.length C920, .slice A923 l922.length C924] :: Ass.deep 94 96 kS96 (some ad1159) C920 l1178 :: Ass.own 3 (Kd.int .i64) A923 C924 l922 :: os) 94 (by kernel_rfl) (by kernel_rfl) (by kernel_rfl) (by kernel_rfl) rfl ?_)
                intro w hS
                have hS : St B w (Ass.own 96 kS96 (some ⟨g1250, 0, none⟩) 1 l1173 :: Ass.box 91 g917 [.slice (some ad1159) l1178.length C920, .slice A923 l922.length C924] :: Ass.deep 94 96 kS96 (some ad1159) C920 l1178 :: Ass.own 3 (Kd.int .i64) A923 C924 l922 :: os) (rs) := by simpa only [hl1178, List.length_set] using hS
                have hC : Core B [Ass.own 3 (Kd.int .i64) A923 C924 l922] [] _ := ⟨_, _, hS.re [3] [] rfl sub_self⟩
                refine ⟨hC, ?_⟩
                refine ED.keep [8, 9, 54, 55, 56, 59, 60, 61, 62, 65, 66, 68] [(8, .int .i32 t1162), (9, .bool (t1163)), (54, .pointer (some ⟨g917, 0, none⟩)), (55, .slice (some ad1159) l918.length C920), (56, .int .i64 a926), (59, .pointer (some ⟨g917, 0, none⟩)), (60, .slice (some ad1159) l918.length C920), (61, .int .i64 a926), (62, .pointer (some ((ad1159.add (a926.toNat * 1)).add 0))), (65, .agg #[.int .i64 a927, .int .i64 0, .int .i32 0, .int .i64 0]), (66, .slice (some ⟨g1250, 0, none⟩) l1173.length 1), (68, .pointer (some ((ad1159.add (a926.toNat * 1)).add 0)))] (by kernel_rfl) ?_
                refine ED.as' [(8, .int .i32 t1162), (9, .bool (t1163)), (54, .pointer (some ⟨g917, 0, none⟩)), (55, .slice (some ad1159) l1178.length C920), (56, .int .i64 a926), (59, .pointer (some ⟨g917, 0, none⟩)), (60, .slice (some ad1159) l1178.length C920), (61, .int .i64 a926), (62, .pointer (some ((ad1159.add (a926.toNat * 1)).add 0))), (65, .agg #[.int .i64 a927, .int .i64 0, .int .i32 0, .int .i64 0]), (66, .slice (some ⟨g1250, 0, none⟩) l1173.length 1), (68, .pointer (some ((ad1159.add (a926.toNat * 1)).add 0)))] (by simp only [hl1178, List.length_set]) ?_
                refine ED.done (by kernel_rfl) ?_
                refine EQ.to ?_
                refine EQ.keep [8, 9] [(8, .int .i32 t1162), (9, .bool (t1163))] (by kernel_rfl) ?_
                exact fun a ha => ⟨(some ⟨g1250, 0, none⟩), 1, ha, (hS.re [3, 3, 3, 3] [] rfl (sub_self))⟩
      · obtain ⟨A1218, C1219, ha, hS⟩ := hI
        refine EQ.at ?_ a ha
        clear ha a
        refine EQ.code ?_
        refine EW.seq (x := Cd13.r.r.r.r.l) (y := Cd13.r.r.r.r.r) (by kernel_rfl) ?_
        refine EW.region (id := 5) (ops := Cd13.r.r.r.r.l.ops) (by kernel_rfl) ?_
        refine EL.quick 4 [6, 7] [(6, .int .i32 t1162), (7, .bool (t1163))] (by kernel_rfl) ?_
        refine EL.done (by kernel_rfl) ?_
        refine EQ.code ?_
        refine EW.ret (by kernel_rfl) ?_
        simp only [Option.some.injEq, Prod.mk.injEq] at H
        obtain ⟨rfl, rfl, rfl⟩ := H
        exact EQ.leave (.tuple #[.int .i32 t1162, .bool (t1163)]) (by kernel_rfl) ⟨_, rfl, (some ad1159), C920, rfl, (hS.re [3, 3, 3] [3] rfl (sub_self))⟩

/-! ### confidant/ident.Label$1: function 77 -/
def ident_Label_1.f (K : Nat) (a1309 : Int) : Option Int := some (IntKind.i64.wrap (Int.tdiv a1309 65536))
set_option maxRecDepth 100000 in
theorem ident_Label_1.calls {K : Nat} {a1309 : Int} {x1310 : Int} {B w : World} {os : List Ass} {rs : List Ro} (H : ident_Label_1.f K a1309 = some x1310) (hS : St B w (os) (rs)) :
    Calls Try.prog 77 [.int .i64 a1309].toArray w (fun en w' => ∃ v, en = .returned v ∧ v = .int .i64 x1310 ∧ St B w' (os) (rs)) := by
  unfold ident_Label_1.f at H
  refine calls_of_EW (args := [.int .i64 a1309]) (c := Cd77) 5 Try.func77 (by kernel_rfl) (by kernel_rfl) (by kernel_rfl) ?_
  refine EW.seq (x := Cd77.l) (y := Cd77.r) (by kernel_rfl) ?_
  refine EW.region (id := 0) (ops := Cd77.l.ops) (by kernel_rfl) ?_
  refine EL.quick 1 [0] [(0, .int .i64 a1309)] (by kernel_rfl) ?_
  refine EL.done (by kernel_rfl) ?_
  refine EQ.code ?_
  refine EW.seq (x := Cd77.r.l) (y := Cd77.r.r) (by kernel_rfl) ?_
  refine EW.region (id := 1) (ops := Cd77.r.l.ops) (by kernel_rfl) ?_
  refine EL.quick 3 [2] [(2, .int .i64 (IntKind.i64.wrap (Int.tdiv a1309 65536)))] (by kernel_rfl) ?_
  refine EL.done (by kernel_rfl) ?_
  refine EQ.code ?_
  refine EW.ret (by kernel_rfl) ?_
  obtain rfl := Option.some.inj H
  exact EQ.leave (.int .i64 (IntKind.i64.wrap (Int.tdiv a1309 65536))) (by kernel_rfl) ⟨_, rfl, rfl, (hS.re [] [] rfl (sub_self))⟩

/-! ### confidant/ident.Label: function 73 -/
def ident_Label.f (K : Nat) (a1306 : Int) : Option Int := lt (fun (x1334 : Int) => (some x1334)) fun j1335 => (if a1306 < 0 then (j1335 (-1)) else (b1 (ident_Label_1.f K (IntKind.i64.wrap a1306)) fun (t1338 : Int) => (j1335 t1338)))
set_option maxRecDepth 100000 in
theorem ident_Label.calls {K : Nat} {a1306 : Int} {x1324 : Int} {B w : World} {os : List Ass} {rs : List Ro} (H : ident_Label.f K a1306 = some x1324) (hS : St B w (os) (rs)) :
    Calls Try.prog 73 [.int .i32 a1306].toArray w (fun en w' => ∃ v, en = .returned v ∧ v = .int .i64 x1324 ∧ St B w' (os) (rs)) := by
  unfold ident_Label.f at H
  refine calls_of_EW (args := [.int .i32 a1306]) (c := Cd73) 5 Try.func73 (by kernel_rfl) (by kernel_rfl) (by kernel_rfl) ?_
  refine EW.seq (x := Cd73.l) (y := Cd73.r) (by kernel_rfl) ?_
  refine EW.region (id := 0) (ops := Cd73.l.ops) (by kernel_rfl) ?_
  refine EL.quick 1 [0] [(0, .int .i32 a1306)] (by kernel_rfl) ?_
  refine EL.done (by kernel_rfl) ?_
  refine EQ.code ?_
  refine EW.seq (x := Cd73.r.l) (y := Cd73.r.r) (by kernel_rfl) ?_
  refine EW.region (id := 1) (ops := Cd73.r.l.ops) (by kernel_rfl) ?_
  refine EL.quick 1 [3] [(3, .int .i32 a1306)] (by kernel_rfl) ?_
  obtain ⟨j1335, hj1335, H⟩ := lt_out H
  refine EL.of (EO.callD 76 [.int .i32 a1306, .func (.func 77) #[] #[]] (fun v w => ∃ x1334 : Int, v = .int .i64 x1334 ∧ St B w (os) (rs) ∧ j1335 x1334 = some x1324) 4 (by kernel_rfl) (by kernel_rfl) (by kernel_rfl) ?_ ?_)
  · refine calls_of_EW (args := [.int .i32 a1306, .func (.func 77) #[] #[]]) (c := Cd76) 11 Try.func76 (by kernel_rfl) (by kernel_rfl) (by kernel_rfl) ?_
    refine EW.seq (x := Cd76.l) (y := Cd76.r) (by kernel_rfl) ?_
    refine EW.region (id := 0) (ops := Cd76.l.ops) (by kernel_rfl) ?_
    refine EL.quick 1 [0, 1] [(0, .int .i32 a1306), (1, .func (.func 77) #[] #[])] (by kernel_rfl) ?_
    refine EL.done (by kernel_rfl) ?_
    refine EQ.code ?_
    refine EW.seq (x := Cd76.r.l) (y := Cd76.r.r) (by kernel_rfl) ?_
    refine EW.seq (x := Cd76.r.l.l) (y := Cd76.r.l.r) (by kernel_rfl) ?_
    refine EW.region (id := 1) (ops := Cd76.r.l.l.ops) (by kernel_rfl) ?_
    refine EL.quick 2 [0, 1, 6] [(0, .int .i32 a1306), (1, .func (.func 77) #[] #[]), (6, .bool (decide (a1306 < 0)))] (by kernel_rfl) ?_
    refine EL.done (by kernel_rfl) ?_
    refine EQ.code ?_
    refine EW.condP (o := (.tmp 6)) (x := Cd76.r.l.r.l) (y := Cd76.r.l.r.r) (a1306 < 0) (by kernel_rfl) (by kernel_rfl) (fun h1337 => ?_) (fun h1337 => ?_)
    · rw [if_pos h1337] at H
      refine EW.seq (x := Cd76.r.l.r.l.l) (y := Cd76.r.l.r.l.r) (by kernel_rfl) ?_
      refine EW.region (id := 2) (ops := Cd76.r.l.r.l.l.ops) (by kernel_rfl) ?_
      refine EL.quick 1 [4] [(4, .int .i64 (-1))] (by kernel_rfl) ?_
      refine EL.done (by kernel_rfl) ?_
      refine EQ.code ?_
      refine EW.ret (by kernel_rfl) ?_
      refine EQ.ret ?_
      exact EQ.leave (.int .i64 (-1)) (by kernel_rfl) ⟨_, rfl, (-1), rfl, (hS.re [] [] rfl (sub_self)), H⟩
    · rw [if_neg h1337] at H
      refine EW.skip (by kernel_rfl) ?_
      refine EQ.code ?_
      refine EW.seq (x := Cd76.r.r.l) (y := Cd76.r.r.r) (by kernel_rfl) ?_
      refine EW.region (id := 3) (ops := Cd76.r.r.l.ops) (by kernel_rfl) ?_
      refine EL.quick 3 [7, 9] [(7, .func (.func 77) #[] #[]), (9, .int .i64 (IntKind.i64.wrap a1306))] (by kernel_rfl) ?_
      obtain ⟨t1338, hc1339, H⟩ := b1_out H
      refine EL.of (EO.callD 77 [.int .i64 (IntKind.i64.wrap a1306)] _ 10 (by kernel_rfl) (by kernel_rfl) (by kernel_rfl) (ident_Label_1.calls hc1339 hS) ?_)
      rintro v w ⟨rfl, hS⟩
      refine EL.quick 1 [4] [(4, .int .i64 t1338)] (by kernel_rfl) ?_
      refine EL.done (by kernel_rfl) ?_
      refine EQ.code ?_
      refine EW.ret (by kernel_rfl) ?_
      exact EQ.leave (.int .i64 t1338) (by kernel_rfl) ⟨_, rfl, t1338, rfl, (hS.re [] [] rfl (sub_self)), H⟩
  · rintro v w ⟨x1334, rfl, hS, H⟩
    rw [hj1335] at H
    (try dsimp only at H)
    refine EL.quick 1 [2] [(2, .int .i64 x1334)] (by kernel_rfl) ?_
    refine EL.done (by kernel_rfl) ?_
    refine EQ.code ?_
    refine EW.ret (by kernel_rfl) ?_
    obtain rfl := Option.some.inj H
    exact EQ.leave (.int .i64 x1334) (by kernel_rfl) ⟨_, rfl, rfl, (hS.re [] [] rfl (sub_self))⟩

/-! ### confidant/ident.Number$1: function 78 -/
def ident_Number_1.f (K : Nat) (a1345 : Int) : Option Int := some (Int.tmod a1345 65536)
set_option maxRecDepth 100000 in
theorem ident_Number_1.calls {K : Nat} {a1345 : Int} {x1346 : Int} {B w : World} {os : List Ass} {rs : List Ro} (H : ident_Number_1.f K a1345 = some x1346) (hS : St B w (os) (rs)) :
    Calls Try.prog 78 [.int .i64 a1345].toArray w (fun en w' => ∃ v, en = .returned v ∧ v = .int .i64 x1346 ∧ St B w' (os) (rs)) := by
  unfold ident_Number_1.f at H
  refine calls_of_EW (args := [.int .i64 a1345]) (c := Cd78) 5 Try.func78 (by kernel_rfl) (by kernel_rfl) (by kernel_rfl) ?_
  refine EW.seq (x := Cd78.l) (y := Cd78.r) (by kernel_rfl) ?_
  refine EW.region (id := 0) (ops := Cd78.l.ops) (by kernel_rfl) ?_
  refine EL.quick 1 [0] [(0, .int .i64 a1345)] (by kernel_rfl) ?_
  refine EL.done (by kernel_rfl) ?_
  refine EQ.code ?_
  refine EW.seq (x := Cd78.r.l) (y := Cd78.r.r) (by kernel_rfl) ?_
  refine EW.region (id := 1) (ops := Cd78.r.l.ops) (by kernel_rfl) ?_
  refine EL.quick 3 [2] [(2, .int .i64 (Int.tmod a1345 65536))] (by kernel_rfl) ?_
  refine EL.done (by kernel_rfl) ?_
  refine EQ.code ?_
  refine EW.ret (by kernel_rfl) ?_
  obtain rfl := Option.some.inj H
  exact EQ.leave (.int .i64 (Int.tmod a1345 65536)) (by kernel_rfl) ⟨_, rfl, rfl, (hS.re [] [] rfl (sub_self))⟩

/-! ### confidant/ident.Number: function 74 -/
def ident_Number.f (K : Nat) (a1342 : Int) : Option Int := lt (fun (x1370 : Int) => (some x1370)) fun j1371 => (if a1342 < 0 then (j1371 (-1)) else (b1 (ident_Number_1.f K (IntKind.i64.wrap a1342)) fun (t1374 : Int) => (j1371 t1374)))
set_option maxRecDepth 100000 in
theorem ident_Number.calls {K : Nat} {a1342 : Int} {x1360 : Int} {B w : World} {os : List Ass} {rs : List Ro} (H : ident_Number.f K a1342 = some x1360) (hS : St B w (os) (rs)) :
    Calls Try.prog 74 [.int .i32 a1342].toArray w (fun en w' => ∃ v, en = .returned v ∧ v = .int .i64 x1360 ∧ St B w' (os) (rs)) := by
  unfold ident_Number.f at H
  refine calls_of_EW (args := [.int .i32 a1342]) (c := Cd74) 5 Try.func74 (by kernel_rfl) (by kernel_rfl) (by kernel_rfl) ?_
  refine EW.seq (x := Cd74.l) (y := Cd74.r) (by kernel_rfl) ?_
  refine EW.region (id := 0) (ops := Cd74.l.ops) (by kernel_rfl) ?_
  refine EL.quick 1 [0] [(0, .int .i32 a1342)] (by kernel_rfl) ?_
  refine EL.done (by kernel_rfl) ?_
  refine EQ.code ?_
  refine EW.seq (x := Cd74.r.l) (y := Cd74.r.r) (by kernel_rfl) ?_
  refine EW.region (id := 1) (ops := Cd74.r.l.ops) (by kernel_rfl) ?_
  refine EL.quick 1 [3] [(3, .int .i32 a1342)] (by kernel_rfl) ?_
  obtain ⟨j1371, hj1371, H⟩ := lt_out H
  refine EL.of (EO.callD 76 [.int .i32 a1342, .func (.func 78) #[] #[]] (fun v w => ∃ x1370 : Int, v = .int .i64 x1370 ∧ St B w (os) (rs) ∧ j1371 x1370 = some x1360) 4 (by kernel_rfl) (by kernel_rfl) (by kernel_rfl) ?_ ?_)
  · refine calls_of_EW (args := [.int .i32 a1342, .func (.func 78) #[] #[]]) (c := Cd76) 11 Try.func76 (by kernel_rfl) (by kernel_rfl) (by kernel_rfl) ?_
    refine EW.seq (x := Cd76.l) (y := Cd76.r) (by kernel_rfl) ?_
    refine EW.region (id := 0) (ops := Cd76.l.ops) (by kernel_rfl) ?_
    refine EL.quick 1 [0, 1] [(0, .int .i32 a1342), (1, .func (.func 78) #[] #[])] (by kernel_rfl) ?_
    refine EL.done (by kernel_rfl) ?_
    refine EQ.code ?_
    refine EW.seq (x := Cd76.r.l) (y := Cd76.r.r) (by kernel_rfl) ?_
    refine EW.seq (x := Cd76.r.l.l) (y := Cd76.r.l.r) (by kernel_rfl) ?_
    refine EW.region (id := 1) (ops := Cd76.r.l.l.ops) (by kernel_rfl) ?_
    refine EL.quick 2 [0, 1, 6] [(0, .int .i32 a1342), (1, .func (.func 78) #[] #[]), (6, .bool (decide (a1342 < 0)))] (by kernel_rfl) ?_
    refine EL.done (by kernel_rfl) ?_
    refine EQ.code ?_
    refine EW.condP (o := (.tmp 6)) (x := Cd76.r.l.r.l) (y := Cd76.r.l.r.r) (a1342 < 0) (by kernel_rfl) (by kernel_rfl) (fun h1373 => ?_) (fun h1373 => ?_)
    · rw [if_pos h1373] at H
      refine EW.seq (x := Cd76.r.l.r.l.l) (y := Cd76.r.l.r.l.r) (by kernel_rfl) ?_
      refine EW.region (id := 2) (ops := Cd76.r.l.r.l.l.ops) (by kernel_rfl) ?_
      refine EL.quick 1 [4] [(4, .int .i64 (-1))] (by kernel_rfl) ?_
      refine EL.done (by kernel_rfl) ?_
      refine EQ.code ?_
      refine EW.ret (by kernel_rfl) ?_
      refine EQ.ret ?_
      exact EQ.leave (.int .i64 (-1)) (by kernel_rfl) ⟨_, rfl, (-1), rfl, (hS.re [] [] rfl (sub_self)), H⟩
    · rw [if_neg h1373] at H
      refine EW.skip (by kernel_rfl) ?_
      refine EQ.code ?_
      refine EW.seq (x := Cd76.r.r.l) (y := Cd76.r.r.r) (by kernel_rfl) ?_
      refine EW.region (id := 3) (ops := Cd76.r.r.l.ops) (by kernel_rfl) ?_
      refine EL.quick 3 [7, 9] [(7, .func (.func 78) #[] #[]), (9, .int .i64 (IntKind.i64.wrap a1342))] (by kernel_rfl) ?_
      obtain ⟨t1374, hc1375, H⟩ := b1_out H
      refine EL.of (EO.callD 78 [.int .i64 (IntKind.i64.wrap a1342)] _ 10 (by kernel_rfl) (by kernel_rfl) (by kernel_rfl) (ident_Number_1.calls hc1375 hS) ?_)
      rintro v w ⟨rfl, hS⟩
      refine EL.quick 1 [4] [(4, .int .i64 t1374)] (by kernel_rfl) ?_
      refine EL.done (by kernel_rfl) ?_
      refine EQ.code ?_
      refine EW.ret (by kernel_rfl) ?_
      exact EQ.leave (.int .i64 t1374) (by kernel_rfl) ⟨_, rfl, t1374, rfl, (hS.re [] [] rfl (sub_self)), H⟩
  · rintro v w ⟨x1370, rfl, hS, H⟩
    rw [hj1371] at H
    (try dsimp only at H)
    refine EL.quick 1 [2] [(2, .int .i64 x1370)] (by kernel_rfl) ?_
    refine EL.done (by kernel_rfl) ?_
    refine EQ.code ?_
    refine EW.ret (by kernel_rfl) ?_
    obtain rfl := Option.some.inj H
    exact EQ.leave (.int .i64 x1370) (by kernel_rfl) ⟨_, rfl, rfl, (hS.re [] [] rfl (sub_self))⟩

/-! ### (*confidant/future.Futures).Keep: function 14 -/
def future_Futures_Keep.f (K : Nat) (l1285 : List (List S96)) (l1289 : List Int) (a1293 : Int) (a1294 : Int) : Option (List (List S96) × Bool) := lt (fun (x2983 : List (List S96)) (x2986 : Bool) => (some (x2983, x2986))) fun j2987 => (b1 (ident_Label.f K a1293) fun (t3190 : Int) => (b1 (ident_Number.f K a1293) fun (t3192 : Int) => (lt (fun (x3234 : Bool) => (if x3234 = true then (j2987 l1285 false) else (if 0 ≤ t3190 then (if t3190 < (l1285.length : Int) then (if 0 ≤ t3192 then (if t3192 < ((l1285.getD t3190.toNat []).length : Int) then (if (((l1285.getD t3190.toNat []).getD t3192.toNat zS96).f1) = 0 then (lt ((l1285.getD t3190.toNat []).set t3192.toNat (⟨((l1285.getD t3190.toNat []).getD t3192.toNat zS96).f0, 1, ((l1285.getD t3190.toNat []).getD t3192.toNat zS96).f2, ((l1285.getD t3190.toNat []).getD t3192.toNat zS96).f3⟩ : S96)) fun l3261 => (lt (l3261.set t3192.toNat (⟨(l3261.getD t3192.toNat zS96).f0, (l3261.getD t3192.toNat zS96).f1, a1294, (l3261.getD t3192.toNat zS96).f3⟩ : S96)) fun l3262 => (lt (l3262.set t3192.toNat (⟨(l3262.getD t3192.toNat zS96).f0, (l3262.getD t3192.toNat zS96).f1, (l3262.getD t3192.toNat zS96).f2, 0⟩ : S96)) fun l3263 => (j2987 (l1285.set t3190.toNat l3263) true)))) else (j2987 l1285 false)) else none) else none) else none) else none))) fun j3235 => (if t3190 < 0 then (j3235 true) else (if t3190 ≥ (l1285.length : Int) then (j3235 true) else (if 0 ≤ t3190 then (if t3190 < (l1285.length : Int) then (j3235 (decide (t3192 ≥ ((l1285.getD t3190.toNat []).length : Int)))) else none) else none))))))
set_option maxRecDepth 100000 in
theorem future_Futures_Keep.calls {K : Nat} {l1285 : List (List S96)} {l1289 : List Int} {a1293 : Int} {a1294 : Int} {g1284 : Nat} {A1286 : Option Addr} {C1287 : Nat} {A1290 : Option Addr} {C1291 : Nat} {x2427 : List (List S96)} {x2430 : Bool} {B w : World} {os : List Ass} {rs : List Ro} (H : future_Futures_Keep.f K l1285 l1289 a1293 a1294 = some (x2427, x2430)) (hS : St B w (Ass.box 91 g1284 [.slice A1286 l1285.length C1287, .slice A1290 l1289.length C1291] :: Ass.deep 94 96 kS96 A1286 C1287 l1285 :: Ass.own 3 (Kd.int .i64) A1290 C1291 l1289 :: os) (rs)) :
    Calls Try.prog 14 [.pointer (some ⟨g1284, 0, none⟩), .int .i32 a1293, .int .i32 a1294].toArray w (fun en w' => ∃ v, en = .returned v ∧ ∃ A2428 : Option Addr, ∃ C2429 : Nat, v = .bool (x2430) ∧ St B w' (Ass.box 91 g1284 [.slice A2428 x2427.length C2429, .slice A1290 l1289.length C1291] :: Ass.deep 94 96 kS96 A2428 C2429 x2427 :: Ass.own 3 (Kd.int .i64) A1290 C1291 l1289 :: os) (rs)) := by
  unfold future_Futures_Keep.f at H
  refine calls_of_EW (args := [.pointer (some ⟨g1284, 0, none⟩), .int .i32 a1293, .int .i32 a1294]) (c := Cd14) 13 Try.func14 (by kernel_rfl) (by kernel_rfl) (by kernel_rfl) ?_
  refine EW.seq (x := Cd14.l) (y := Cd14.r) (by kernel_rfl) ?_
  refine EW.region (id := 0) (ops := Cd14.l.ops) (by kernel_rfl) ?_
  refine EL.quick 1 [0, 1, 2] [(0, .pointer (some ⟨g1284, 0, none⟩)), (1, .int .i32 a1293), (2, .int .i32 a1294)] (by kernel_rfl) ?_
  refine EL.done (by kernel_rfl) ?_
  refine EQ.code ?_
  refine EW.seq (x := Cd14.r.l) (y := Cd14.r.r) (by kernel_rfl) ?_
  refine EW.region (id := 1) (ops := Cd14.r.l.ops) (by kernel_rfl) ?_
  refine EL.quick 5 [7, 8, 11] [(7, .pointer (some ⟨g1284, 0, none⟩)), (8, .int .i32 a1293), (11, .func (.func 43) #[.agg #[.int .i64 1, .int .i32 a1294, .int .i64 0]] #[])] (by kernel_rfl) ?_
  obtain ⟨j2987, hj2987, H⟩ := lt_out H
  refine EL.of (EO.callD 42 [.pointer (some ⟨g1284, 0, none⟩), .int .i32 a1293, .func (.func 43) #[.agg #[.int .i64 1, .int .i32 a1294, .int .i64 0]] #[]] (fun v w => ∃ x2983 : List (List S96), ∃ x2986 : Bool, ∃ A2984 : Option Addr, ∃ C2985 : Nat, v = .bool (x2986) ∧ St B w (Ass.box 91 g1284 [.slice A2984 x2983.length C2985, .slice A1290 l1289.length C1291] :: Ass.deep 94 96 kS96 A2984 C2985 x2983 :: Ass.own 3 (Kd.int .i64) A1290 C1291 l1289 :: os) (rs) ∧ j2987 x2983 x2986 = some (x2427, x2430)) 12 (by kernel_rfl) (by kernel_rfl) (by kernel_rfl) ?_ ?_)
  · refine calls_of_EW (args := [.pointer (some ⟨g1284, 0, none⟩), .int .i32 a1293, .func (.func 43) #[.agg #[.int .i64 1, .int .i32 a1294, .int .i64 0]] #[]]) (c := Cd42) 23 Try.func42 (by kernel_rfl) (by kernel_rfl) (by kernel_rfl) ?_
    refine EW.seq (x := Cd42.l) (y := Cd42.r) (by kernel_rfl) ?_
    refine EW.region (id := 0) (ops := Cd42.l.ops) (by kernel_rfl) ?_
    refine EL.quick 1 [0, 1, 2] [(0, .pointer (some ⟨g1284, 0, none⟩)), (1, .int .i32 a1293), (2, .func (.func 43) #[.agg #[.int .i64 1, .int .i32 a1294, .int .i64 0]] #[])] (by kernel_rfl) ?_
    refine EL.done (by kernel_rfl) ?_
    refine EQ.code ?_
    refine EW.seq (x := Cd42.r.l) (y := Cd42.r.r) (by kernel_rfl) ?_
    refine EW.region (id := 1) (ops := Cd42.r.l.ops) (by kernel_rfl) ?_
    refine EL.quick 2 [2, 8, 9] [(2, .func (.func 43) #[.agg #[.int .i64 1, .int .i32 a1294, .int .i64 0]] #[]), (8, .pointer (some ⟨g1284, 0, none⟩)), (9, .int .i32 a1293)] (by kernel_rfl) ?_
    refine EL.inline 64 [.pointer (some ⟨g1284, 0, none⟩), .int .i32 a1293] 10 (by kernel_rfl) (by kernel_rfl) (by kernel_rfl) ?_
    refine calls_of_EW (args := [.pointer (some ⟨g1284, 0, none⟩), .int .i32 a1293]) (c := Cd64) 43 Try.func64 (by kernel_rfl) (by kernel_rfl) (by kernel_rfl) ?_
    refine EW.seq (x := Cd64.l) (y := Cd64.r) (by kernel_rfl) ?_
    refine EW.region (id := 0) (ops := Cd64.l.ops) (by kernel_rfl) ?_
    refine EL.quick 1 [0, 1] [(0, .pointer (some ⟨g1284, 0, none⟩)), (1, .int .i32 a1293)] (by kernel_rfl) ?_
    refine EL.done (by kernel_rfl) ?_
    refine EQ.code ?_
    refine EW.seq (x := Cd64.r.l) (y := Cd64.r.r) (by kernel_rfl) ?_
    refine EW.region (id := 1) (ops := Cd64.r.l.ops) (by kernel_rfl) ?_
    refine EL.quick 1 [0, 1, 7] [(0, .pointer (some ⟨g1284, 0, none⟩)), (1, .int .i32 a1293), (7, .int .i32 a1293)] (by kernel_rfl) ?_
    obtain ⟨t3190, hc3191, H⟩ := b1_out H
    refine EL.of (EO.callD 73 [.int .i32 a1293] _ 8 (by kernel_rfl) (by kernel_rfl) (by kernel_rfl) (ident_Label.calls hc3191 hS) ?_)
    rintro v w ⟨rfl, hS⟩
    refine EL.quick 1 [0, 8, 9] [(0, .pointer (some ⟨g1284, 0, none⟩)), (8, .int .i64 t3190), (9, .int .i32 a1293)] (by kernel_rfl) ?_
    obtain ⟨t3192, hc3193, H⟩ := b1_out H
    refine EL.of (EO.callD 74 [.int .i32 a1293] _ 10 (by kernel_rfl) (by kernel_rfl) (by kernel_rfl) (ident_Number.calls hc3193 hS) ?_)
    rintro v w ⟨rfl, hS⟩
    refine EL.quick 2 [0, 5, 6] [(0, .pointer (some ⟨g1284, 0, none⟩)), (5, .int .i64 t3190), (6, .int .i64 t3192)] (by kernel_rfl) ?_
    refine EL.done (by kernel_rfl) ?_
    refine EQ.code ?_
    refine EW.seq (x := Cd64.r.r.l) (y := Cd64.r.r.r) (by kernel_rfl) ?_
    obtain ⟨j3235, hj3235, H⟩ := lt_out H
    refine EW.cut (x := Cd64.r.r.l.l) (y := Cd64.r.r.l.r) (fun a w => ∃ x3234 : Bool, Sat 43 [(0, .pointer (some ⟨g1284, 0, none⟩)), (5, .int .i64 t3190), (6, .int .i64 t3192), (33, .bool (x3234))] a ∧ St B w (Ass.box 91 g1284 [.slice A1286 l1285.length C1287, .slice A1290 l1289.length C1291] :: Ass.deep 94 96 kS96 A1286 C1287 l1285 :: Ass.own 3 (Kd.int .i64) A1290 C1291 l1289 :: os) (rs) ∧ j3235 x3234 = some (x2427, x2430)) (by kernel_rfl) ?_ (fun a w hI => ?_)
    · refine EW.region (id := 2) (ops := Cd64.r.r.l.l.ops) (by kernel_rfl) ?_
      refine EL.quick 3 [0, 5, 6, 13] [(0, .pointer (some ⟨g1284, 0, none⟩)), (5, .int .i64 t3190), (6, .int .i64 t3192), (13, .bool (decide (t3190 < 0)))] (by kernel_rfl) ?_
      by_cases h3236 : t3190 < 0
      · rw [if_pos h3236] at H
        refine EL.keep [0, 5, 6, 13] [(0, .pointer (some ⟨g1284, 0, none⟩)), (5, .int .i64 t3190), (6, .int .i64 t3192), (13, .bool (decide (t3190 < 0)))] (by kernel_rfl) ?_
        refine EL.as' [(0, .pointer (some ⟨g1284, 0, none⟩)), (5, .int .i64 t3190), (6, .int .i64 t3192), (13, .bool (true))] (by simp only [dec_t h3236, Bool.not_true, Bool.not_false]) ?_
        refine EL.quick 20 [0, 5, 6, 33] [(0, .pointer (some ⟨g1284, 0, none⟩)), (5, .int .i64 t3190), (6, .int .i64 t3192), (33, .bool (true))] (by kernel_rfl) ?_
        refine EL.done (by kernel_rfl) ?_
        refine EQ.to ?_
        refine EQ.keep [0, 5, 6, 33] [(0, .pointer (some ⟨g1284, 0, none⟩)), (5, .int .i64 t3190), (6, .int .i64 t3192), (33, .bool (true))] (by kernel_rfl) ?_
        exact fun a ha => ⟨true, ha, (hS.re [2, 2, 2] [] rfl (sub_self)), H⟩
      · rw [if_neg h3236] at H
        refine EL.keep [0, 5, 6, 13] [(0, .pointer (some ⟨g1284, 0, none⟩)), (5, .int .i64 t3190), (6, .int .i64 t3192), (13, .bool (decide (t3190 < 0)))] (by kernel_rfl) ?_
        refine EL.as' [(0, .pointer (some ⟨g1284, 0, none⟩)), (5, .int .i64 t3190), (6, .int .i64 t3192), (13, .bool (false))] (by simp only [dec_f h3236, Bool.not_true, Bool.not_false]) ?_
        refine EL.quick 4 [0, 5, 6, 13, 14, 17] [(0, .pointer (some ⟨g1284, 0, none⟩)), (5, .int .i64 t3190), (6, .int .i64 t3192), (13, .bool (false)), (14, .int .i64 t3190), (17, .pointer (some ⟨g1284, 0, none⟩))] (by kernel_rfl) ?_
        refine EL.of (EO.Y (YO.loadBox hS 0 rfl 89 0 1 (.slice A1286 l1285.length C1287) 18 (by kernel_rfl) (by kernel_rfl) (by kernel_rfl) (by kernel_rfl)) ?_)
        refine EL.quick 4 [0, 5, 6, 22] [(0, .pointer (some ⟨g1284, 0, none⟩)), (5, .int .i64 t3190), (6, .int .i64 t3192), (22, .bool (decide (t3190 ≥ (l1285.length : Int))))] (by kernel_rfl) ?_
        by_cases h3237 : t3190 ≥ (l1285.length : Int)
        · rw [if_pos h3237] at H
          refine EL.keep [0, 5, 6, 22] [(0, .pointer (some ⟨g1284, 0, none⟩)), (5, .int .i64 t3190), (6, .int .i64 t3192), (22, .bool (decide (t3190 ≥ (l1285.length : Int))))] (by kernel_rfl) ?_
          refine EL.as' [(0, .pointer (some ⟨g1284, 0, none⟩)), (5, .int .i64 t3190), (6, .int .i64 t3192), (22, .bool (true))] (by simp only [dec_t h3237, Bool.not_true, Bool.not_false]) ?_
          refine EL.quick 11 [0, 5, 6, 33] [(0, .pointer (some ⟨g1284, 0, none⟩)), (5, .int .i64 t3190), (6, .int .i64 t3192), (33, .bool (true))] (by kernel_rfl) ?_
          refine EL.done (by kernel_rfl) ?_
          refine EQ.to ?_
          refine EQ.keep [0, 5, 6, 33] [(0, .pointer (some ⟨g1284, 0, none⟩)), (5, .int .i64 t3190), (6, .int .i64 t3192), (33, .bool (true))] (by kernel_rfl) ?_
          exact fun a ha => ⟨true, ha, (hS.re [2, 2, 2] [] rfl (sub_self)), H⟩
        · rw [if_neg h3237] at H
          refine EL.keep [0, 5, 6, 22] [(0, .pointer (some ⟨g1284, 0, none⟩)), (5, .int .i64 t3190), (6, .int .i64 t3192), (22, .bool (decide (t3190 ≥ (l1285.length : Int))))] (by kernel_rfl) ?_
          refine EL.as' [(0, .pointer (some ⟨g1284, 0, none⟩)), (5, .int .i64 t3190), (6, .int .i64 t3192), (22, .bool (false))] (by simp only [dec_f h3237, Bool.not_true, Bool.not_false]) ?_
          refine EL.quick 4 [0, 5, 6, 22, 23, 26] [(0, .pointer (some ⟨g1284, 0, none⟩)), (5, .int .i64 t3190), (6, .int .i64 t3192), (22, .bool (false)), (23, .int .i64 t3192), (26, .pointer (some ⟨g1284, 0, none⟩))] (by kernel_rfl) ?_
          refine EL.of (EO.Y (YO.loadBox hS 0 rfl 89 0 1 (.slice A1286 l1285.length C1287) 27 (by kernel_rfl) (by kernel_rfl) (by kernel_rfl) (by kernel_rfl)) ?_)
          refine EL.quick 1 [0, 5, 6, 22, 23, 27, 28] [(0, .pointer (some ⟨g1284, 0, none⟩)), (5, .int .i64 t3190), (6, .int .i64 t3192), (22, .bool (false)), (23, .int .i64 t3192), (27, .slice A1286 l1285.length C1287), (28, .int .i64 t3190)] (by kernel_rfl) ?_
          obtain ⟨h3238, H⟩ := ite_in H
          obtain ⟨h3239, H⟩ := ite_in H
          obtain ⟨ad3240, rfl⟩ := St.deep_some hS 1 rfl h3238 h3239
          refine EL.of (EO.Y (YO.idx 89 1 ad3240 l1285.length C1287 .i64 t3190 29 (by kernel_rfl) (by kernel_rfl) (by kernel_rfl) (by kernel_rfl) h3238 h3239) ?_)
          refine EL.of (EO.openEl hS 1 ad3240 rfl t3190 h3238 h3239 (fun A3241 C3242 => Ass.box 91 g1284 [.slice (some ad3240) l1285.length C1287, .slice A1290 l1289.length C1291] :: Ass.holed 94 96 kS96 (some ad3240) C1287 l1285 t3190.toNat (A3241, (l1285.getD t3190.toNat []).length, C3242) :: Ass.own 3 (Kd.int .i64) A1290 C1291 l1289 :: os) 94 30 (by kernel_rfl) (by kernel_rfl) (by kernel_rfl) (by kernel_rfl) (fun _ _ => rfl) ?_)
          intro A3241 C3242 hS
          refine EL.quick 3 [0, 5, 6, 33] [(0, .pointer (some ⟨g1284, 0, none⟩)), (5, .int .i64 t3190), (6, .int .i64 t3192), (33, .bool (decide (t3192 ≥ ((l1285.getD t3190.toNat []).length : Int))))] (by kernel_rfl) ?_
          refine EL.done (by kernel_rfl) ?_
          refine EQ.to ?_
          have hS := St.as (os' := Ass.box 91 g1284 [.slice (some ad3240) l1285.length C1287, .slice A1290 l1289.length C1291] :: Ass.deep 94 96 kS96 (some ad3240) C1287 l1285 :: Ass.own 3 (Kd.int .i64) A1290 C1291 l1289 :: os) (St.close hS 0 1 rfl rfl rfl l1285 (set_getD _ _)) rfl
          refine EQ.keep [0, 5, 6, 33] [(0, .pointer (some ⟨g1284, 0, none⟩)), (5, .int .i64 t3190), (6, .int .i64 t3192), (33, .bool (decide (t3192 ≥ ((l1285.getD t3190.toNat []).length : Int))))] (by kernel_rfl) ?_
          exact fun a ha => ⟨decide (t3192 ≥ ((l1285.getD t3190.toNat []).length : Int)), ha, (hS.re [2, 2, 2] [] rfl (sub_self)), H⟩
    · obtain ⟨x3234, ha, hS, H⟩ := hI
      rw [hj3235] at H
      (try dsimp only at H)
      refine EW.at ?_ a ha
      clear ha a
      refine EW.condP' (o := (.tmp 33)) (x := Cd64.r.r.l.r.l) (y := Cd64.r.r.l.r.r) (x3234) (by kernel_rfl) (by kernel_rfl) (fun h3243 => ?_) (fun h3243 => ?_)
      · rw [if_pos h3243] at H
        refine EW.seq (x := Cd64.r.r.l.r.l.l) (y := Cd64.r.r.l.r.l.r) (by kernel_rfl) ?_
        refine EW.region (id := 3) (ops := Cd64.r.r.l.r.l.l.ops) (by kernel_rfl) ?_
        refine EL.quick 1 [4] [(4, .pointer none)] (by kernel_rfl) ?_
        refine EL.done (by kernel_rfl) ?_
        refine EQ.code ?_
        refine EW.ret (by kernel_rfl) ?_
        refine EQ.ret ?_
        refine EQ.leave (.pointer none) (by kernel_rfl) ⟨_, rfl, ?_⟩
        refine EL.quick 1 [2, 7] [(2, .func (.func 43) #[.agg #[.int .i64 1, .int .i32 a1294, .int .i64 0]] #[]), (7, .pointer none)] (by kernel_rfl) ?_
        refine EL.done (by kernel_rfl) ?_
        refine EQ.code ?_
        refine EW.seq (x := Cd42.r.r.l) (y := Cd42.r.r.r) (by kernel_rfl) ?_
        refine EW.seq (x := Cd42.r.r.l.l) (y := Cd42.r.r.l.r) (by kernel_rfl) ?_
        refine EW.region (id := 2) (ops := Cd42.r.r.l.l.ops) (by kernel_rfl) ?_
        refine EL.quick 9 [2, 7, 19] [(2, .func (.func 43) #[.agg #[.int .i64 1, .int .i32 a1294, .int .i64 0]] #[]), (7, .pointer none), (19, .bool (true))] (by kernel_rfl) ?_
        refine EL.done (by kernel_rfl) ?_
        refine EQ.code ?_
        refine EW.condT (o := (.tmp 19)) (x := Cd42.r.r.l.r.l) (y := Cd42.r.r.l.r.r) (by kernel_rfl) (by kernel_rfl) ?_
        refine EW.seq (x := Cd42.r.r.l.r.l.l) (y := Cd42.r.r.l.r.l.r) (by kernel_rfl) ?_
        refine EW.region (id := 3) (ops := Cd42.r.r.l.r.l.l.ops) (by kernel_rfl) ?_
        refine EL.quick 1 [6] [(6, .bool (false))] (by kernel_rfl) ?_
        refine EL.done (by kernel_rfl) ?_
        refine EQ.code ?_
        refine EW.ret (by kernel_rfl) ?_
        refine EQ.ret ?_
        exact EQ.leave (.bool (false)) (by kernel_rfl) ⟨_, rfl, l1285, false, A1286, C1287, rfl, (hS.re [2, 2, 2] [] rfl (sub_self)), H⟩
      · rw [if_neg h3243] at H
        refine EW.skip (by kernel_rfl) ?_
        refine EQ.code ?_
        refine EW.seq (x := Cd64.r.r.r.l) (y := Cd64.r.r.r.r) (by kernel_rfl) ?_
        refine EW.region (id := 4) (ops := Cd64.r.r.r.l.ops) (by kernel_rfl) ?_
        refine EL.quick 3 [5, 6, 36] [(5, .int .i64 t3190), (6, .int .i64 t3192), (36, .pointer (some ⟨g1284, 0, none⟩))] (by kernel_rfl) ?_
        refine EL.of (EO.Y (YO.loadBox hS 0 rfl 89 0 1 (.slice A1286 l1285.length C1287) 37 (by kernel_rfl) (by kernel_rfl) (by kernel_rfl) (by kernel_rfl)) ?_)
        refine EL.quick 1 [6, 37, 38] [(6, .int .i64 t3192), (37, .slice A1286 l1285.length C1287), (38, .int .i64 t3190)] (by kernel_rfl) ?_
        obtain ⟨h3244, H⟩ := ite_in H
        obtain ⟨h3245, H⟩ := ite_in H
        obtain ⟨ad3246, rfl⟩ := St.deep_some hS 1 rfl h3244 h3245
        refine EL.of (EO.Y (YO.idx 89 1 ad3246 l1285.length C1287 .i64 t3190 39 (by kernel_rfl) (by kernel_rfl) (by kernel_rfl) (by kernel_rfl) h3244 h3245) ?_)
        refine EL.of (EO.openEl hS 1 ad3246 rfl t3190 h3244 h3245 (fun A3247 C3248 => Ass.box 91 g1284 [.slice (some ad3246) l1285.length C1287, .slice A1290 l1289.length C1291] :: Ass.holed 94 96 kS96 (some ad3246) C1287 l1285 t3190.toNat (A3247, (l1285.getD t3190.toNat []).length, C3248) :: Ass.own 3 (Kd.int .i64) A1290 C1291 l1289 :: os) 94 40 (by kernel_rfl) (by kernel_rfl) (by kernel_rfl) (by kernel_rfl) (fun _ _ => rfl) ?_)
        intro A3247 C3248 hS
        refine EL.quick 1 [40, 41] [(40, .slice A3247 (l1285.getD t3190.toNat []).length C3248), (41, .int .i64 t3192)] (by kernel_rfl) ?_
        obtain ⟨h3249, H⟩ := ite_in H
        obtain ⟨h3250, H⟩ := ite_in H
        obtain ⟨ad3251, rfl⟩ := St.rd_some hS (Rd.own 0 96 rfl) h3249 h3250
        refine EL.of (EO.Y (YO.idx 94 4 ad3251 (l1285.getD t3190.toNat []).length C3248 .i64 t3192 42 (by kernel_rfl) (by kernel_rfl) (by kernel_rfl) (by kernel_rfl) h3249 h3250) ?_)
        refine EL.quick 1 [4] [(4, .pointer (some ((ad3251.add (t3192.toNat * 4)).add 0)))] (by kernel_rfl) ?_
        refine EL.done (by kernel_rfl) ?_
        refine EQ.code ?_
        refine EW.ret (by kernel_rfl) ?_
        refine EQ.leave (.pointer (some ((ad3251.add (t3192.toNat * 4)).add 0))) (by kernel_rfl) ⟨_, rfl, ?_⟩
        refine EL.quick 1 [2, 7] [(2, .func (.func 43) #[.agg #[.int .i64 1, .int .i32 a1294, .int .i64 0]] #[]), (7, .pointer (some ((ad3251.add (t3192.toNat * 4)).add 0)))] (by kernel_rfl) ?_
        refine EL.done (by kernel_rfl) ?_
        refine EQ.code ?_
        refine EW.seq (x := Cd42.r.r.l) (y := Cd42.r.r.r) (by kernel_rfl) ?_
        refine EW.seq (x := Cd42.r.r.l.l) (y := Cd42.r.r.l.r) (by kernel_rfl) ?_
        refine EW.region (id := 2) (ops := Cd42.r.r.l.l.ops) (by kernel_rfl) ?_
        refine EL.quick 6 [2, 7, 13, 16] [(2, .func (.func 43) #[.agg #[.int .i64 1, .int .i32 a1294, .int .i64 0]] #[]), (7, .pointer (some ((ad3251.add (t3192.toNat * 4)).add 0))), (13, .bool (false)), (16, .pointer (some ((ad3251.add (t3192.toNat * 4)).add 1)))] (by kernel_rfl) ?_
        refine EL.of (EO.Y (YO.loadEl hS kS96 ad3251 C3248 (l1285.getD t3190.toNat []) (Rd.own 0 96 rfl) zS96 encS96 encS96_of t3192 h3249 h3250 3 4 1 1 rfl (.int .i64 (((l1285.getD t3190.toNat []).getD t3192.toNat zS96).f1)) 17 (by kernel_rfl) (by kernel_rfl) (by kernel_rfl) (by kernel_rfl)) ?_)
        refine EL.quick 2 [2, 7, 19] [(2, .func (.func 43) #[.agg #[.int .i64 1, .int .i32 a1294, .int .i64 0]] #[]), (7, .pointer (some ((ad3251.add (t3192.toNat * 4)).add 0))), (19, .bool (!(decide ((((l1285.getD t3190.toNat []).getD t3192.toNat zS96).f1) = 0))))] (by kernel_rfl) ?_
        refine EL.done (by kernel_rfl) ?_
        refine EQ.code ?_
        refine EW.condQ (b := !(decide ((((l1285.getD t3190.toNat []).getD t3192.toNat zS96).f1) = 0))) (o := (.tmp 19)) (x := Cd42.r.r.l.r.l) (y := Cd42.r.r.l.r.r) ((((l1285.getD t3190.toNat []).getD t3192.toNat zS96).f1) = 0) (false) (by kernel_rfl) (by kernel_rfl) ⟨fun h => (by rw [decide_eq_true h] <;> rfl), fun h => (by rw [decide_eq_false h] <;> rfl)⟩ (fun h3253 => ?_) (fun h3253 => ?_)
        · rw [if_pos h3253] at H
          refine EW.skip (by kernel_rfl) ?_
          refine EQ.code ?_
          refine EW.seq (x := Cd42.r.r.r.l) (y := Cd42.r.r.r.r) (by kernel_rfl) ?_
          refine EW.region (id := 4) (ops := Cd42.r.r.r.l.ops) (by kernel_rfl) ?_
          refine EL.quick 2 [20, 21] [(20, .func (.func 43) #[.agg #[.int .i64 1, .int .i32 a1294, .int .i64 0]] #[]), (21, .pointer (some ((ad3251.add (t3192.toNat * 4)).add 0)))] (by kernel_rfl) ?_
          refine EL.inline 43 [.agg #[.int .i64 1, .int .i32 a1294, .int .i64 0], .pointer (some ((ad3251.add (t3192.toNat * 4)).add 0))] 22 (by kernel_rfl) (by kernel_rfl) (by kernel_rfl) ?_
          refine calls_of_EW (args := [.agg #[.int .i64 1, .int .i32 a1294, .int .i64 0], .pointer (some ((ad3251.add (t3192.toNat * 4)).add 0))]) (c := Cd43) 19 Try.func43 (by kernel_rfl) (by kernel_rfl) (by kernel_rfl) ?_
          refine EW.seq (x := Cd43.l) (y := Cd43.r) (by kernel_rfl) ?_
          refine EW.region (id := 0) (ops := Cd43.l.ops) (by kernel_rfl) ?_
          refine EL.of (EO.box hS 100 (.agg #[.int .i64 1, .int .i32 a1294, .int .i64 0]) [.int .i64 1, .int .i32 a1294, .int .i64 0] 2 (by kernel_rfl) (by kernel_rfl) (by kernel_rfl) (by first | rfl | kernel_rfl) ?_)
          intro g3260 w hS
          refine EL.done (by kernel_rfl) ?_
          refine EQ.code ?_
          obtain ⟨l3261, hl3261, H⟩ := lt_out H
          obtain ⟨l3262, hl3262, H⟩ := lt_out H
          obtain ⟨l3263, hl3263, H⟩ := lt_out H
          have hS := hS.drew
          refine EW.draw (B := B) (id := 1) (ops := Cd43.r.ops) [Ass.box 100 g3260 [.int .i64 1, .int .i32 a1294, .int .i64 0], Ass.box 91 g1284 [.slice (some ad3246) l1285.length C1287, .slice A1290 l1289.length C1291], Ass.holed 94 96 kS96 (some ad3246) C1287 l1285 t3190.toNat ((some ad3251), (l1285.getD t3190.toNat []).length, C3248), Ass.own 3 (Kd.int .i64) A1290 C1291 l1289] [] (by kernel_rfl) (by kernel_rfl) ?_
          have hN : Region.noSelect Cd43.r.ops = true := (by kernel_rfl)
          have hF : freeAll Cd43.r.ops = true := (by kernel_rfl)
          have hC : Core B [Ass.box 100 g3260 [.int .i64 1, .int .i32 a1294, .int .i64 0], Ass.box 91 g1284 [.slice (some ad3246) l1285.length C1287, .slice A1290 l1289.length C1291], Ass.holed 94 96 kS96 (some ad3246) C1287 l1285 t3190.toNat ((some ad3251), (l1285.getD t3190.toNat []).length, C3248), Ass.own 3 (Kd.int .i64) A1290 C1291 l1289] [] _ := ⟨_, _, hS.re [4, 4, 4, 3] [] rfl sub_self⟩
          refine ED.quick hN hF hC [0, 1, 2, 3, 5, 7] [4, 5, 6, 7, 9, 11] 12 [(4, .pointer (some ((ad3251.add (t3192.toNat * 4)).add 0))), (5, .pointer (some ((ad3251.add (t3192.toNat * 4)).add 0))), (6, .pointer (some ((ad3251.add (t3192.toNat * 4)).add 0))), (7, .pointer (some ⟨g3260, 0, none⟩)), (9, .pointer (some ⟨g3260, 1, none⟩)), (11, .pointer (some ⟨g3260, 2, none⟩))] #[true, true, true, true, false, true, false, true, false, false, false, false, false, false, false, false, false, false] (by kernel_rfl) (by kernel_rfl) ?_
          refine ED.Y hN hF hC 4 11 #[true, true, true, true, true, true, false, true, false, false, false, false, false, false, false, false, false, false] (by kernel_rfl) (by kernel_rfl) rfl (fun _ _ _ hS => YO.loadBox hS 0 rfl 3 0 1 (.int .i64 1) 8 (by kernel_rfl) (by kernel_rfl) (by kernel_rfl) (by kernel_rfl)) ?_
          refine ED.quick hN hF hC [9, 10] [5, 6, 8, 9, 11, 14] 9 [(5, .pointer (some ((ad3251.add (t3192.toNat * 4)).add 0))), (6, .pointer (some ((ad3251.add (t3192.toNat * 4)).add 0))), (8, .int .i64 1), (9, .pointer (some ⟨g3260, 1, none⟩)), (11, .pointer (some ⟨g3260, 2, none⟩)), (14, .pointer (some ((ad3251.add (t3192.toNat * 4)).add 1)))] #[true, true, true, true, true, true, false, true, false, true, true, false, false, false, false, false, false, false] (by kernel_rfl) (by kernel_rfl) ?_
          refine ED.Y hN hF hC 6 8 #[true, true, true, true, true, true, true, true, false, true, true, false, false, false, false, false, false, false] (by kernel_rfl) (by kernel_rfl) rfl (fun _ _ _ hS => YO.loadBox hS 0 rfl 21 1 1 (.int .i32 a1294) 10 (by kernel_rfl) (by kernel_rfl) (by kernel_rfl) (by kernel_rfl)) ?_
          refine ED.Y hN hF hC 8 7 #[true, true, true, true, true, true, true, true, true, true, true, false, false, false, false, false, false, false] (by kernel_rfl) (by kernel_rfl) rfl (fun _ _ _ hS => YO.loadBox hS 0 rfl 57 2 1 (.int .i64 0) 12 (by kernel_rfl) (by kernel_rfl) (by kernel_rfl) (by kernel_rfl)) ?_
          refine ED.one 11 6 #[true, true, true, true, true, true, true, true, true, true, true, true, false, false, false, false, false, false] (by kernel_rfl) (by kernel_rfl) (by kernel_rfl) (EO.storeEl hS 1 kS96 96 ad3251 C3248 (l1285.getD t3190.toNat []) rfl t3192 h3249 h3250 zS96 3 4 1 rfl (.int .i64 1) (⟨((l1285.getD t3190.toNat []).getD t3192.toNat zS96).f0, 1, ((l1285.getD t3190.toNat []).getD t3192.toNat zS96).f2, ((l1285.getD t3190.toNat []).getD t3192.toNat zS96).f3⟩ : S96) l3261 hl3261 (Ass.box 100 g3260 [.int .i64 1, .int .i32 a1294, .int .i64 0] :: Ass.own 96 kS96 (some ad3251) C3248 l3261 :: Ass.box 91 g1284 [.slice (some ad3246) l1285.length C1287, .slice A1290 l1289.length C1291] :: Ass.holed 94 96 kS96 (some ad3246) C1287 l1285 t3190.toNat ((some ad3251), (l1285.getD t3190.toNat []).length, C3248) :: Ass.own 3 (Kd.int .i64) A1290 C1291 l1289 :: os) (by kernel_rfl) (by kernel_rfl) (by kernel_rfl) (by kernel_rfl) (by kernel_rfl) (by kernel_rfl) (fun w G vs hr h => (by have e := encS96_of _ _ _ _ h; subst e; exact ⟨[.int .i64 (((l1285.getD t3190.toNat []).getD t3192.toNat zS96).f0)], [.int .i64 1, .int .i32 (((l1285.getD t3190.toNat []).getD t3192.toNat zS96).f2), .int .i64 (((l1285.getD t3190.toNat []).getD t3192.toNat zS96).f3)], rfl, rfl, ⟨[.int .i64 1], [.int .i32 (((l1285.getD t3190.toNat []).getD t3192.toNat zS96).f2), .int .i64 (((l1285.getD t3190.toNat []).getD t3192.toNat zS96).f3)], rfl, rfl, ⟨[.int .i32 (((l1285.getD t3190.toNat []).getD t3192.toNat zS96).f2)], [.int .i64 (((l1285.getD t3190.toNat []).getD t3192.toNat zS96).f3)], rfl, rfl, ⟨[.int .i64 (((l1285.getD t3190.toNat []).getD t3192.toNat zS96).f3)], [], rfl, rfl, rfl⟩⟩⟩⟩)) rfl ?_)
          intro w hS
          have hC : Core B [Ass.box 100 g3260 [.int .i64 1, .int .i32 a1294, .int .i64 0], Ass.box 91 g1284 [.slice (some ad3246) l1285.length C1287, .slice A1290 l1289.length C1291], Ass.holed 94 96 kS96 (some ad3246) C1287 l1285 t3190.toNat ((some ad3251), (l1285.getD t3190.toNat []).length, C3248), Ass.own 3 (Kd.int .i64) A1290 C1291 l1289] [] _ := ⟨_, _, hS.re [4, 4, 4, 3] [] rfl sub_self⟩
          refine ⟨hC, ?_⟩
          refine ED.quick hN hF hC [12, 13] [6, 10, 12, 16] 4 [(6, .pointer (some ((ad3251.add (t3192.toNat * 4)).add 0))), (10, .int .i32 a1294), (12, .int .i64 0), (16, .pointer (some ((ad3251.add (t3192.toNat * 4)).add 2)))] #[true, true, true, true, true, true, true, true, true, true, true, true, true, true, false, false, false, false] (by kernel_rfl) (by kernel_rfl) ?_
          refine ED.one 14 3 #[true, true, true, true, true, true, true, true, true, true, true, true, true, true, true, false, false, false] (by kernel_rfl) (by kernel_rfl) (by kernel_rfl) (EO.storeEl hS 1 kS96 96 ad3251 C3248 l3261 rfl t3192 h3249 (lt_set h3250 hl3261) zS96 21 4 2 rfl (.int .i32 a1294) (⟨(l3261.getD t3192.toNat zS96).f0, (l3261.getD t3192.toNat zS96).f1, a1294, (l3261.getD t3192.toNat zS96).f3⟩ : S96) l3262 hl3262 (Ass.box 100 g3260 [.int .i64 1, .int .i32 a1294, .int .i64 0] :: Ass.own 96 kS96 (some ad3251) C3248 l3262 :: Ass.box 91 g1284 [.slice (some ad3246) l1285.length C1287, .slice A1290 l1289.length C1291] :: Ass.holed 94 96 kS96 (some ad3246) C1287 l1285 t3190.toNat ((some ad3251), (l1285.getD t3190.toNat []).length, C3248) :: Ass.own 3 (Kd.int .i64) A1290 C1291 l1289 :: os) (by kernel_rfl) (by kernel_rfl) (by kernel_rfl) (by kernel_rfl) (by kernel_rfl) (by kernel_rfl) (fun w G vs hr h => (by have e := encS96_of _ _ _ _ h; subst e; exact ⟨[.int .i64 ((l3261.getD t3192.toNat zS96).f0)], [.int .i64 ((l3261.getD t3192.toNat zS96).f1), .int .i32 a1294, .int .i64 ((l3261.getD t3192.toNat zS96).f3)], rfl, rfl, ⟨[.int .i64 ((l3261.getD t3192.toNat zS96).f1)], [.int .i32 a1294, .int .i64 ((l3261.getD t3192.toNat zS96).f3)], rfl, rfl, ⟨[.int .i32 a1294], [.int .i64 ((l3261.getD t3192.toNat zS96).f3)], rfl, rfl, ⟨[.int .i64 ((l3261.getD t3192.toNat zS96).f3)], [], rfl, rfl, rfl⟩⟩⟩⟩)) rfl ?_)
          intro w hS
          have hC : Core B [Ass.box 100 g3260 [.int .i64 1, .int .i32 a1294, .int .i64 0], Ass.box 91 g1284 [.slice (some ad3246) l1285.length C1287, .slice A1290 l1289.length C1291], Ass.holed 94 96 kS96 (some ad3246) C1287 l1285 t3190.toNat ((some ad3251), (l1285.getD t3190.toNat []).length, C3248), Ass.own 3 (Kd.int .i64) A1290 C1291 l1289] [] _ := ⟨_, _, hS.re [4, 4, 4, 3] [] rfl sub_self⟩
          refine ⟨hC, ?_⟩
          refine ED.quick hN hF hC [15, 16] [12, 18] 1 [(12, .int .i64 0), (18, .pointer (some ((ad3251.add (t3192.toNat * 4)).add 3)))] #[true, true, true, true, true, true, true, true, true, true, true, true, true, true, true, true, true, false] (by kernel_rfl) (by kernel_rfl) ?_
          refine ED.one 17 0 #[true, true, true, true, true, true, true, true, true, true, true, true, true, true, true, true, true, true] (by kernel_rfl) (by kernel_rfl) (by kernel_rfl) (EO.storeEl hS 1 kS96 96 ad3251 C3248 l3262 rfl t3192 h3249 (lt_set (lt_set h3250 hl3261) hl3262) zS96 57 4 3 rfl (.int .i64 0) (⟨(l3262.getD t3192.toNat zS96).f0, (l3262.getD t3192.toNat zS96).f1, (l3262.getD t3192.toNat zS96).f2, 0⟩ : S96) l3263 hl3263 (Ass.box 100 g3260 [.int .i64 1, .int .i32 a1294, .int .i64 0] :: Ass.own 96 kS96 (some ad3251) C3248 l3263 :: Ass.box 91 g1284 [.slice (some ad3246) l1285.length C1287, .slice A1290 l1289.length C1291] :: Ass.holed 94 96 kS96 (some ad3246) C1287 l1285 t3190.toNat ((some ad3251), (l1285.getD t3190.toNat []).length, C3248) :: Ass.own 3 (Kd.int .i64) A1290 C1291 l1289 :: os) (by kernel_rfl) (by kernel_rfl) (by kernel_rfl) (by kernel_rfl) (by kernel_rfl) (by kernel_rfl) (fun w G vs hr h => (by have e := encS96_of _ _ _ _ h; subst e; exact ⟨[.int .i64 ((l3262.getD t3192.toNat zS96).f0)], [.int .i64 ((l3262.getD t3192.toNat zS96).f1), .int .i32 ((l3262.getD t3192.toNat zS96).f2), .int .i64 0], rfl, rfl, ⟨[.int .i64 ((l3262.getD t3192.toNat zS96).f1)], [.int .i32 ((l3262.getD t3192.toNat zS96).f2), .int .i64 0], rfl, rfl, ⟨[.int .i32 ((l3262.getD t3192.toNat zS96).f2)], [.int .i64 0], rfl, rfl, ⟨[.int .i64 0], [], rfl, rfl, rfl⟩⟩⟩⟩)) rfl ?_)
          intro w hS
          have hC : Core B [Ass.box 100 g3260 [.int .i64 1, .int .i32 a1294, .int .i64 0], Ass.box 91 g1284 [.slice (some ad3246) l1285.length C1287, .slice A1290 l1289.length C1291], Ass.holed 94 96 kS96 (some ad3246) C1287 l1285 t3190.toNat ((some ad3251), (l1285.getD t3190.toNat []).length, C3248), Ass.own 3 (Kd.int .i64) A1290 C1291 l1289] [] _ := ⟨_, _, hS.re [4, 4, 4, 3] [] rfl sub_self⟩
          refine ⟨hC, ?_⟩
          refine ED.done (by kernel_rfl) ?_
          refine EQ.leaveN (.tuple #[]) (by kernel_rfl) ⟨_, rfl, ?_⟩
          refine EL.done (by kernel_rfl) ?_
          refine EQ.code ?_
          refine EW.seq (x := Cd42.r.r.r.r.l) (y := Cd42.r.r.r.r.r) (by kernel_rfl) ?_
          refine EW.region (id := 5) (ops := Cd42.r.r.r.r.l.ops) (by kernel_rfl) ?_
          refine EL.quick 1 [6] [(6, .bool (true))] (by kernel_rfl) ?_
          refine EL.done (by kernel_rfl) ?_
          refine EQ.code ?_
          refine EW.ret (by kernel_rfl) ?_
          have hS := St.as (os' := Ass.box 100 g3260 [.int .i64 1, .int .i32 a1294, .int .i64 0] :: Ass.box 91 g1284 [.slice (some ad3246) l1285.length C1287, .slice A1290 l1289.length C1291] :: Ass.deep 94 96 kS96 (some ad3246) C1287 (l1285.set t3190.toNat l3263) :: Ass.own 3 (Kd.int .i64) A1290 C1291 l1289 :: os) (St.close hS 1 2 rfl rfl (len_set (len_set (len_set rfl hl3261) hl3262) hl3263) (l1285.set t3190.toNat l3263) rfl) rfl
          have hS := St.as hS (os' := Ass.box 100 g3260 [.int .i64 1, .int .i32 a1294, .int .i64 0] :: Ass.box 91 g1284 [.slice (some ad3246) (l1285.set t3190.toNat l3263).length C1287, .slice A1290 l1289.length C1291] :: Ass.deep 94 96 kS96 (some ad3246) C1287 (l1285.set t3190.toNat l3263) :: Ass.own 3 (Kd.int .i64) A1290 C1291 l1289 :: os) (by simp only [List.length_set])
          exact EQ.leave (.bool (true)) (by kernel_rfl) ⟨_, rfl, (l1285.set t3190.toNat l3263), true, (some ad3246), C1287, rfl, (hS.re [3, 3, 3] [3] rfl (sub_self)), H⟩
        · rw [if_neg h3253] at H
          refine EW.seq (x := Cd42.r.r.l.r.l.l) (y := Cd42.r.r.l.r.l.r) (by kernel_rfl) ?_
          refine EW.region (id := 3) (ops := Cd42.r.r.l.r.l.l.ops) (by kernel_rfl) ?_
          refine EL.quick 1 [6] [(6, .bool (false))] (by kernel_rfl) ?_
          refine EL.done (by kernel_rfl) ?_
          refine EQ.code ?_
          refine EW.ret (by kernel_rfl) ?_
          refine EQ.ret ?_
          have hS := St.as (os' := Ass.box 91 g1284 [.slice (some ad3246) l1285.length C1287, .slice A1290 l1289.length C1291] :: Ass.deep 94 96 kS96 (some ad3246) C1287 l1285 :: Ass.own 3 (Kd.int .i64) A1290 C1291 l1289 :: os) (St.close hS 0 1 rfl rfl rfl l1285 (set_getD _ _)) rfl
          exact EQ.leave (.bool (false)) (by kernel_rfl) ⟨_, rfl, l1285, false, (some ad3246), C1287, rfl, (hS.re [2, 2, 2] [] rfl (sub_self)), H⟩
  · rintro v w ⟨x2983, x2986, A2984, C2985, rfl, hS, H⟩
    rw [hj2987] at H
    (try dsimp only at H)
    refine EL.quick 1 [6] [(6, .bool (x2986))] (by kernel_rfl) ?_
    refine EL.done (by kernel_rfl) ?_
    refine EQ.code ?_
    refine EW.ret (by kernel_rfl) ?_
    simp only [Option.some.injEq, Prod.mk.injEq] at H
    obtain ⟨rfl, rfl⟩ := H
    exact EQ.leave (.bool (x2986)) (by kernel_rfl) ⟨_, rfl, A2984, C2985, rfl, (hS.re [2, 2, 2] [] rfl (sub_self))⟩

/-! ### slices.Clone[[]int32,int32]: function 75 -/
def slices_Clone_int32_int32.f (K : Nat) (l3345 : List Int) : Option (List Int) := lt ([] : List Int) fun l3376 => (if (l3376.length + l3345.length) * 4 ≤ 140737488355328 then (lt (l3376 ++ l3345) fun l3378 => (some l3378)) else none)
set_option maxRecDepth 100000 in
theorem slices_Clone_int32_int32.calls {K : Nat} {l3345 : List Int} {A3346 : Option Addr} {C3347 : Nat} {x3362 : List Int} {B w : World} {os : List Ass} {rs : List Ro} (H : slices_Clone_int32_int32.f K l3345 = some x3362) (hS : St B w (os) (Ro.sl (Kd.int .i32) A3346 C3347 l3345 :: rs)) :
    Calls Try.prog 75 [.slice A3346 l3345.length C3347].toArray w (fun en w' => ∃ v, en = .returned v ∧ ∃ A3363 : Option Addr, ∃ C3364 : Nat, v = .slice A3363 x3362.length C3364 ∧ St B w' (Ass.own 21 (Kd.int .i32) A3363 C3364 x3362 :: os) (Ro.sl (Kd.int .i32) A3346 C3347 l3345 :: rs)) := by
  unfold slices_Clone_int32_int32.f at H
  refine calls_of_EW (args := [.slice A3346 l3345.length C3347]) (c := Cd75) 8 Try.func75 (by kernel_rfl) (by kernel_rfl) (by kernel_rfl) ?_
  refine EW.seq (x := Cd75.l) (y := Cd75.r) (by kernel_rfl) ?_
  refine EW.region (id := 0) (ops := Cd75.l.ops) (by kernel_rfl) ?_
  refine EL.quick 1 [0] [(0, .slice A3346 l3345.length C3347)] (by kernel_rfl) ?_
  refine EL.done (by kernel_rfl) ?_
  refine EQ.code ?_
  refine EW.seq (x := Cd75.r.l) (y := Cd75.r.r) (by kernel_rfl) ?_
  refine EW.seq (x := Cd75.r.l.l) (y := Cd75.r.l.r) (by kernel_rfl) ?_
  refine EW.region (id := 1) (ops := Cd75.r.l.l.ops) (by kernel_rfl) ?_
  refine EL.quick 1 [0, 3] [(0, .slice A3346 l3345.length C3347), (3, .slice A3346 l3345.length C3347)] (by kernel_rfl) ?_
  rcases A3346 with _ | ad3373
  · have h3374 := St.rd_nil hS (Rd.ro 0 rfl)
    have H : (some ([] : List Int)) = some x3362 := by simpa [lt, h3374] using H
    refine EL.quick 1 [0, 4] [(0, .slice none l3345.length C3347), (4, .bool (true))] (by kernel_rfl) ?_
    refine EL.done (by kernel_rfl) ?_
    refine EQ.code ?_
    refine EW.condT (o := (.tmp 4)) (x := Cd75.r.l.r.l) (y := Cd75.r.l.r.r) (by kernel_rfl) (by kernel_rfl) ?_
    refine EW.seq (x := Cd75.r.l.r.l.l) (y := Cd75.r.l.r.l.r) (by kernel_rfl) ?_
    refine EW.region (id := 2) (ops := Cd75.r.l.r.l.l.ops) (by kernel_rfl) ?_
    refine EL.quick 1 [2] [(2, .slice none ([] : List Int).length 0)] (by kernel_rfl) ?_
    refine EL.done (by kernel_rfl) ?_
    refine EQ.code ?_
    refine EW.ret (by kernel_rfl) ?_
    refine EQ.ret ?_
    have hS := St.nilO hS 21 (Kd.int .i32)
    obtain rfl := Option.some.inj H
    exact EQ.leave (.slice none ([] : List Int).length 0) (by kernel_rfl) ⟨_, rfl, none, 0, rfl, (hS.re [0] [] rfl (sub_self))⟩
  · refine EL.quick 1 [0, 4] [(0, .slice (some ad3373) l3345.length C3347), (4, .bool (false))] (by kernel_rfl) ?_
    refine EL.done (by kernel_rfl) ?_
    refine EQ.code ?_
    refine EW.condF (o := (.tmp 4)) (x := Cd75.r.l.r.l) (y := Cd75.r.l.r.r) (by kernel_rfl) (by kernel_rfl) ?_
    refine EW.skip (by kernel_rfl) ?_
    refine EQ.code ?_
    refine EW.seq (x := Cd75.r.r.l) (y := Cd75.r.r.r) (by kernel_rfl) ?_
    refine EW.region (id := 3) (ops := Cd75.r.r.l.ops) (by kernel_rfl) ?_
    obtain ⟨l3376, hl3376, H⟩ := lt_out H
    refine EL.of (EO.lit hS (Kd.int .i32) 21 32 0 #[] [] l3376 5 (by kernel_rfl) (by kernel_rfl) (by kernel_rfl) (fun _ => (by kernel_rfl)) (by rw [hl3376]; rfl) (by kernel_rfl) (fun w G hr => (by rw [hl3376]; exact rfl)) ?_)
    intro g3375 w hS
    refine EL.quick 1 [5, 6] [(5, .slice (some ⟨g3375, 0, none⟩) l3376.length 0), (6, .slice (some ad3373) l3345.length C3347)] (by kernel_rfl) ?_
    obtain ⟨h3377, H⟩ := ite_in H
    obtain ⟨l3378, hl3378, H⟩ := lt_out H
    refine EL.of (EO.append hS 32 32 21 4 0 (Kd.int .i32) (some ⟨g3375, 0, none⟩) 0 l3376 rfl (some ad3373) C3347 l3345 (Rd.ro 0 rfl) l3378 hl3378 (fun A3379 C3380 => Ass.own 21 (Kd.int .i32) A3379 C3380 l3378 :: os) 7 (by kernel_rfl) (by kernel_rfl) (by kernel_rfl) (by kernel_rfl) h3377 (fun _ _ => rfl) ?_)
    intro A3379 C3380 w hS
    refine EL.quick 1 [2] [(2, .slice A3379 l3378.length C3380)] (by kernel_rfl) ?_
    refine EL.done (by kernel_rfl) ?_
    refine EQ.code ?_
    refine EW.ret (by kernel_rfl) ?_
    obtain rfl := Option.some.inj H
    exact EQ.leave (.slice A3379 l3378.length C3380) (by kernel_rfl) ⟨_, rfl, A3379, C3380, rfl, (hS.re [0] [] rfl (sub_self))⟩

/-! ### confidant/task.Drop: function 65 -/
def task_Drop.f (K : Nat) (a3316 : Int) (a3317 : Int) (a3318 : Int) (l3319 : List Int) (a3322 : Int) (a3323 : Int) (a3324 : Int) (a3325 : Int) (a3326 : Int) (a3327 : Int) (a3328 : Int) (a3329 : Int) (a3330 : Int) (l3331 : List Int) : Option S36 := lt (IntKind.i64.wrap ((l3319.length : Int) - (mn (mx a3330 0) (l3319.length : Int)))) fun y3410 => (if 0 ≤ y3410 then (if y3410 ≤ (l3319.length : Int) then (lt (l3319.take y3410.toNat) fun l3426 => (b1 (slices_Clone_int32_int32.f K l3426) fun (t3429 : List Int) => (if (t3429.length + l3331.length) * 4 ≤ 140737488355328 then (lt (t3429 ++ l3331) fun l3434 => (some (⟨a3316, a3317, IntKind.i64.wrap (a3318 + 1), l3434, (⟨a3322, a3323, a3324, a3325⟩ : S33), a3326, a3327, a3328, a3329⟩ : S36))) else none))) else none) else none)
set_option maxRecDepth 100000 in
theorem task_Drop.calls {K : Nat} {a3316 : Int} {a3317 : Int} {a3318 : Int} {l3319 : List Int} {a3322 : Int} {a3323 : Int} {a3324 : Int} {a3325 : Int} {a3326 : Int} {a3327 : Int} {a3328 : Int} {a3329 : Int} {a3330 : Int} {l3331 : List Int} {A3320 : Option Addr} {C3321 : Nat} {A3332 : Option Addr} {C3333 : Nat} {x3402 : S36} {B w : World} {os : List Ass} {rs : List Ro} (H : task_Drop.f K a3316 a3317 a3318 l3319 a3322 a3323 a3324 a3325 a3326 a3327 a3328 a3329 a3330 l3331 = some x3402) (hS : St B w (os) (Ro.sl (Kd.int .i32) A3320 C3321 l3319 :: Ro.sl (Kd.int .i32) A3332 C3333 l3331 :: rs)) :
    Calls Try.prog 65 [.agg #[.int .i32 a3316, .int .i64 a3317, .int .i64 a3318, .slice A3320 l3319.length C3321, .int .i32 a3322, .int .i32 a3323, .int .i32 a3324, .int .i32 a3325, .int .i64 a3326, .int .i64 a3327, .int .u32 a3328, .int .i64 a3329], .int .i64 a3330, .slice A3332 l3331.length C3333].toArray w (fun en w' => ∃ v, en = .returned v ∧ ∃ A3403 : Option Addr, ∃ C3404 : Nat, v = .agg #[.int .i32 x3402.f0, .int .i64 x3402.f1, .int .i64 x3402.f2, .slice A3403 x3402.f3.length C3404, .int .i32 x3402.f4.f0, .int .i32 x3402.f4.f1, .int .i32 x3402.f4.f2, .int .i32 x3402.f4.f3, .int .i64 x3402.f5, .int .i64 x3402.f6, .int .u32 x3402.f7, .int .i64 x3402.f8] ∧ St B w' (os) (Ro.sl (Kd.int .i32) A3403 C3404 x3402.f3 :: Ro.sl (Kd.int .i32) A3320 C3321 l3319 :: Ro.sl (Kd.int .i32) A3332 C3333 l3331 :: rs)) := by
  unfold task_Drop.f at H
  refine calls_of_EW (args := [.agg #[.int .i32 a3316, .int .i64 a3317, .int .i64 a3318, .slice A3320 l3319.length C3321, .int .i32 a3322, .int .i32 a3323, .int .i32 a3324, .int .i32 a3325, .int .i64 a3326, .int .i64 a3327, .int .u32 a3328, .int .i64 a3329], .int .i64 a3330, .slice A3332 l3331.length C3333]) (c := Cd65) 31 Try.func65 (by kernel_rfl) (by kernel_rfl) (by kernel_rfl) ?_
  refine EW.seq (x := Cd65.l) (y := Cd65.r) (by kernel_rfl) ?_
  refine EW.region (id := 0) (ops := Cd65.l.ops) (by kernel_rfl) ?_
  refine EL.of (EO.box hS 36 (.agg #[.int .i32 a3316, .int .i64 a3317, .int .i64 a3318, .slice A3320 l3319.length C3321, .int .i32 a3322, .int .i32 a3323, .int .i32 a3324, .int .i32 a3325, .int .i64 a3326, .int .i64 a3327, .int .u32 a3328, .int .i64 a3329]) [.int .i32 a3316, .int .i64 a3317, .int .i64 a3318, .slice A3320 l3319.length C3321, .int .i32 a3322, .int .i32 a3323, .int .i32 a3324, .int .i32 a3325, .int .i64 a3326, .int .i64 a3327, .int .u32 a3328, .int .i64 a3329] 3 (by kernel_rfl) (by kernel_rfl) (by kernel_rfl) (by first | rfl | kernel_rfl) ?_)
  intro g3407 w hS
  refine EL.of (EO.alloc hS 36 (.agg #[.int .i32 0, .int .i64 0, .int .i64 0, .slice none ([] : List Int).length 0, .int .i32 0, .int .i32 0, .int .i32 0, .int .i32 0, .int .i64 0, .int .i64 0, .int .u32 0, .int .i64 0]) [.int .i32 0, .int .i64 0, .int .i64 0, .slice none ([] : List Int).length 0, .int .i32 0, .int .i32 0, .int .i32 0, .int .i32 0, .int .i64 0, .int .i64 0, .int .u32 0, .int .i64 0] 6 (by kernel_rfl) (by kernel_rfl) (by kernel_rfl) (by kernel_rfl) (by first | rfl | kernel_rfl) ?_)
  intro g3408 w hS
  refine EL.done (by kernel_rfl) ?_
  refine EQ.code ?_
  refine EW.seq (x := Cd65.r.l) (y := Cd65.r.r) (by kernel_rfl) ?_
  refine EW.region (id := 1) (ops := Cd65.r.l.ops) (by kernel_rfl) ?_
  refine EL.quick 1 [1, 2, 3, 6, 8] [(1, .int .i64 a3330), (2, .slice A3332 l3331.length C3333), (3, .pointer (some ⟨g3407, 0, none⟩)), (6, .pointer (some ⟨g3408, 0, none⟩)), (8, .pointer (some ⟨g3407, 3, none⟩))] (by kernel_rfl) ?_
  refine EL.of (EO.Y (YO.loadBox hS 1 rfl 32 3 1 (.slice A3320 l3319.length C3321) 9 (by kernel_rfl) (by kernel_rfl) (by kernel_rfl) (by kernel_rfl)) ?_)
  refine EL.quick 4 [2, 3, 6, 10, 12, 13] [(2, .slice A3332 l3331.length C3333), (3, .pointer (some ⟨g3407, 0, none⟩)), (6, .pointer (some ⟨g3408, 0, none⟩)), (10, .int .i64 (l3319.length : Int)), (12, .int .i64 (mx a3330 0)), (13, .pointer (some ⟨g3407, 3, none⟩))] (by kernel_rfl) ?_
  refine EL.of (EO.Y (YO.loadBox hS 1 rfl 32 3 1 (.slice A3320 l3319.length C3321) 14 (by kernel_rfl) (by kernel_rfl) (by kernel_rfl) (by kernel_rfl)) ?_)
  refine EL.quick 4 [2, 3, 6, 7] [(2, .slice A3332 l3331.length C3333), (3, .pointer (some ⟨g3407, 0, none⟩)), (6, .pointer (some ⟨g3408, 0, none⟩)), (7, .int .i64 (IntKind.i64.wrap ((l3319.length : Int) - (mn (mx a3330 0) (l3319.length : Int)))))] (by kernel_rfl) ?_
  obtain ⟨y3410, hy3410, H⟩ := lt_out H
  refine EL.keep [2, 3, 6, 7] [(2, .slice A3332 l3331.length C3333), (3, .pointer (some ⟨g3407, 0, none⟩)), (6, .pointer (some ⟨g3408, 0, none⟩)), (7, .int .i64 (IntKind.i64.wrap ((l3319.length : Int) - (mn (mx a3330 0) (l3319.length : Int)))))] (by kernel_rfl) ?_
  refine EL.as' [(2, .slice A3332 l3331.length C3333), (3, .pointer (some ⟨g3407, 0, none⟩)), (6, .pointer (some ⟨g3408, 0, none⟩)), (7, .int .i64 y3410)] (by subst hy3410; rfl) ?_
  refine EL.done (by kernel_rfl) ?_
  refine EQ.code ?_
  refine EW.seq (x := Cd65.r.r.l) (y := Cd65.r.r.r) (by kernel_rfl) ?_
  refine EW.region (id := 2) (ops := Cd65.r.r.l.ops) (by kernel_rfl) ?_
  refine EL.quick 1 [2, 3, 6, 7, 18] [(2, .slice A3332 l3331.length C3333), (3, .pointer (some ⟨g3407, 0, none⟩)), (6, .pointer (some ⟨g3408, 0, none⟩)), (7, .int .i64 y3410), (18, .pointer (some ⟨g3407, 2, none⟩))] (by kernel_rfl) ?_
  refine EL.of (EO.Y (YO.loadBox hS 1 rfl 3 2 1 (.int .i64 a3318) 19 (by kernel_rfl) (by kernel_rfl) (by kernel_rfl) (by kernel_rfl)) ?_)
  refine EL.quick 2 [2, 3, 6, 7, 20, 21] [(2, .slice A3332 l3331.length C3333), (3, .pointer (some ⟨g3407, 0, none⟩)), (6, .pointer (some ⟨g3408, 0, none⟩)), (7, .int .i64 y3410), (20, .int .i64 (IntKind.i64.wrap (a3318 + 1))), (21, .pointer (some ⟨g3407, 2, none⟩))] (by kernel_rfl) ?_
  refine EL.of (EO.storeBox (os' := Ass.box 36 g3408 [.int .i32 0, .int .i64 0, .int .i64 0, .slice none ([] : List Int).length 0, .int .i32 0, .int .i32 0, .int .i32 0, .int .i32 0, .int .i64 0, .int .i64 0, .int .u32 0, .int .i64 0] :: Ass.box 36 g3407 [.int .i32 a3316, .int .i64 a3317, .int .i64 (IntKind.i64.wrap (a3318 + 1)), .slice A3320 l3319.length C3321, .int .i32 a3322, .int .i32 a3323, .int .i32 a3324, .int .i32 a3325, .int .i64 a3326, .int .i64 a3327, .int .u32 a3328, .int .i64 a3329] :: os) hS 1 rfl 3 2 (.int .i64 (IntKind.i64.wrap (a3318 + 1))) [.int .i32 a3316, .int .i64 a3317, .int .i64 (IntKind.i64.wrap (a3318 + 1)), .slice A3320 l3319.length C3321, .int .i32 a3322, .int .i32 a3323, .int .i32 a3324, .int .i32 a3325, .int .i64 a3326, .int .i64 a3327, .int .u32 a3328, .int .i64 a3329] (by kernel_rfl) (by kernel_rfl) (by kernel_rfl) (by kernel_rfl) (by kernel_rfl) (by kernel_rfl) rfl rfl ?_)
  intro w hS
  refine EL.done (by kernel_rfl) ?_
  refine EQ.code ?_
  refine EW.seq (x := Cd65.r.r.r.l) (y := Cd65.r.r.r.r) (by kernel_rfl) ?_
  refine EW.region (id := 3) (ops := Cd65.r.r.r.l.ops) (by kernel_rfl) ?_
  refine EL.quick 1 [2, 3, 6, 7, 22] [(2, .slice A3332 l3331.length C3333), (3, .pointer (some ⟨g3407, 0, none⟩)), (6, .pointer (some ⟨g3408, 0, none⟩)), (7, .int .i64 y3410), (22, .pointer (some ⟨g3407, 3, none⟩))] (by kernel_rfl) ?_
  refine EL.of (EO.Y (YO.loadBox hS 1 rfl 32 3 1 (.slice A3320 l3319.length C3321) 23 (by kernel_rfl) (by kernel_rfl) (by kernel_rfl) (by kernel_rfl)) ?_)
  refine EL.quick 1 [2, 3, 6, 23, 24] [(2, .slice A3332 l3331.length C3333), (3, .pointer (some ⟨g3407, 0, none⟩)), (6, .pointer (some ⟨g3408, 0, none⟩)), (23, .slice A3320 l3319.length C3321), (24, .int .i64 y3410)] (by kernel_rfl) ?_
  obtain ⟨h3424, H⟩ := ite_in H
  obtain ⟨h3425, H⟩ := ite_in H
  obtain ⟨l3426, hl3426, H⟩ := lt_out H
  refine EL.of (EO.sliceRo hS (Kd.int .i32) A3320 C3321 l3319 0 rfl none (some (.int .i64 y3410)) none 0 y3410.toNat C3321 l3426 (by rw [hl3426]; exact (slice_hi _ _)) 32 25 (by kernel_rfl) (by kernel_rfl) (by kernel_rfl) (by kernel_rfl) (rfl) ((Int.toNat_of_nonneg (by omega)).symm) ⟨rfl, fun h => by first | rfl | cases h⟩ (by omega) (by omega) (.inl rfl) ?_)
  intro A3427 C3428 hS
  have hS : St B _ (Ass.box 36 g3408 [.int .i32 0, .int .i64 0, .int .i64 0, .slice none ([] : List Int).length 0, .int .i32 0, .int .i32 0, .int .i32 0, .int .i32 0, .int .i64 0, .int .i64 0, .int .u32 0, .int .i64 0] :: Ass.box 36 g3407 [.int .i32 a3316, .int .i64 a3317, .int .i64 (IntKind.i64.wrap (a3318 + 1)), .slice A3320 l3319.length C3321, .int .i32 a3322, .int .i32 a3323, .int .i32 a3324, .int .i32 a3325, .int .i64 a3326, .int .i64 a3327, .int .u32 a3328, .int .i64 a3329] :: os) (Ro.sl (Kd.int .i32) A3427 C3428 l3426 :: Ro.sl (Kd.int .i32) A3427 C3428 l3426 :: Ro.sl (Kd.int .i32) A3320 C3321 l3319 :: Ro.sl (Kd.int .i32) A3332 C3333 l3331 :: rs) := hS.re [] [] rfl (sub_cons 0 rfl sub_self)
  obtain ⟨t3429, hc3432, H⟩ := b1_out H
  refine EL.of (EO.callD 75 [.slice A3427 l3426.length C3428] _ 26 (by kernel_rfl) (by kernel_rfl) (by kernel_rfl) (slices_Clone_int32_int32.calls hc3432 hS) ?_)
  rintro v w ⟨A3430, C3431, rfl, hS⟩
  refine EL.quick 1 [3, 6, 26, 27] [(3, .pointer (some ⟨g3407, 0, none⟩)), (6, .pointer (some ⟨g3408, 0, none⟩)), (26, .slice A3430 t3429.length C3431), (27, .slice A3332 l3331.length C3333)] (by kernel_rfl) ?_
  obtain ⟨h3433, H⟩ := ite_in H
  obtain ⟨l3434, hl3434, H⟩ := lt_out H
  refine EL.of (EO.append hS 32 32 21 4 0 (Kd.int .i32) A3430 C3431 t3429 rfl A3332 C3333 l3331 (Rd.ro 3 rfl) l3434 hl3434 (fun A3435 C3436 => Ass.own 21 (Kd.int .i32) A3435 C3436 l3434 :: Ass.box 36 g3408 [.int .i32 0, .int .i64 0, .int .i64 0, .slice none ([] : List Int).length 0, .int .i32 0, .int .i32 0, .int .i32 0, .int .i32 0, .int .i64 0, .int .i64 0, .int .u32 0, .int .i64 0] :: Ass.box 36 g3407 [.int .i32 a3316, .int .i64 a3317, .int .i64 (IntKind.i64.wrap (a3318 + 1)), .slice A3320 l3319.length C3321, .int .i32 a3322, .int .i32 a3323, .int .i32 a3324, .int .i32 a3325, .int .i64 a3326, .int .i64 a3327, .int .u32 a3328, .int .i64 a3329] :: os) 28 (by kernel_rfl) (by kernel_rfl) (by kernel_rfl) (by kernel_rfl) h3433 (fun _ _ => rfl) ?_)
  intro A3435 C3436 w hS
  refine EL.quick 1 [3, 6, 28, 29] [(3, .pointer (some ⟨g3407, 0, none⟩)), (6, .pointer (some ⟨g3408, 0, none⟩)), (28, .slice A3435 l3434.length C3436), (29, .pointer (some ⟨g3407, 3, none⟩))] (by kernel_rfl) ?_
  refine EL.of (EO.storeBox (os' := Ass.own 21 (Kd.int .i32) A3435 C3436 l3434 :: Ass.box 36 g3408 [.int .i32 0, .int .i64 0, .int .i64 0, .slice none ([] : List Int).length 0, .int .i32 0, .int .i32 0, .int .i32 0, .int .i32 0, .int .i64 0, .int .i64 0, .int .u32 0, .int .i64 0] :: Ass.box 36 g3407 [.int .i32 a3316, .int .i64 a3317, .int .i64 (IntKind.i64.wrap (a3318 + 1)), .slice A3435 l3434.length C3436, .int .i32 a3322, .int .i32 a3323, .int .i32 a3324, .int .i32 a3325, .int .i64 a3326, .int .i64 a3327, .int .u32 a3328, .int .i64 a3329] :: os) hS 2 rfl 32 3 (.slice A3435 l3434.length C3436) [.int .i32 a3316, .int .i64 a3317, .int .i64 (IntKind.i64.wrap (a3318 + 1)), .slice A3435 l3434.length C3436, .int .i32 a3322, .int .i32 a3323, .int .i32 a3324, .int .i32 a3325, .int .i64 a3326, .int .i64 a3327, .int .u32 a3328, .int .i64 a3329] (by kernel_rfl) (by kernel_rfl) (by kernel_rfl) (by kernel_rfl) (by kernel_rfl) (by kernel_rfl) rfl rfl ?_)
  intro w hS
  refine EL.done (by kernel_rfl) ?_
  refine EQ.code ?_
  refine EW.seq (x := Cd65.r.r.r.r.l) (y := Cd65.r.r.r.r.r) (by kernel_rfl) ?_
  refine EW.region (id := 4) (ops := Cd65.r.r.r.r.l.ops) (by kernel_rfl) ?_
  refine EL.of (EO.Y (YO.loadBox hS 2 rfl 36 0 12 (.agg #[.int .i32 a3316, .int .i64 a3317, .int .i64 (IntKind.i64.wrap (a3318 + 1)), .slice A3435 l3434.length C3436, .int .i32 a3322, .int .i32 a3323, .int .i32 a3324, .int .i32 a3325, .int .i64 a3326, .int .i64 a3327, .int .u32 a3328, .int .i64 a3329]) 30 (by kernel_rfl) (by kernel_rfl) (by kernel_rfl) (by kernel_rfl)) ?_)
  refine EL.of (EO.storeBox (os' := Ass.own 21 (Kd.int .i32) A3435 C3436 l3434 :: Ass.box 36 g3408 [.int .i32 a3316, .int .i64 a3317, .int .i64 (IntKind.i64.wrap (a3318 + 1)), .slice A3435 l3434.length C3436, .int .i32 a3322, .int .i32 a3323, .int .i32 a3324, .int .i32 a3325, .int .i64 a3326, .int .i64 a3327, .int .u32 a3328, .int .i64 a3329] :: Ass.box 36 g3407 [.int .i32 a3316, .int .i64 a3317, .int .i64 (IntKind.i64.wrap (a3318 + 1)), .slice A3435 l3434.length C3436, .int .i32 a3322, .int .i32 a3323, .int .i32 a3324, .int .i32 a3325, .int .i64 a3326, .int .i64 a3327, .int .u32 a3328, .int .i64 a3329] :: os) hS 1 rfl 36 0 (.agg #[.int .i32 a3316, .int .i64 a3317, .int .i64 (IntKind.i64.wrap (a3318 + 1)), .slice A3435 l3434.length C3436, .int .i32 a3322, .int .i32 a3323, .int .i32 a3324, .int .i32 a3325, .int .i64 a3326, .int .i64 a3327, .int .u32 a3328, .int .i64 a3329]) [.int .i32 a3316, .int .i64 a3317, .int .i64 (IntKind.i64.wrap (a3318 + 1)), .slice A3435 l3434.length C3436, .int .i32 a3322, .int .i32 a3323, .int .i32 a3324, .int .i32 a3325, .int .i64 a3326, .int .i64 a3327, .int .u32 a3328, .int .i64 a3329] (by kernel_rfl) (by kernel_rfl) (by kernel_rfl) (by kernel_rfl) (by kernel_rfl) (by kernel_rfl) rfl rfl ?_)
  intro w hS
  refine EL.done (by kernel_rfl) ?_
  refine EQ.code ?_
  refine EW.ret (by kernel_rfl) ?_
  have hS := St.fr hS 0 rfl
  obtain rfl := Option.some.inj H
  exact EQ.leaveC hS 0 rfl 6 36 0 12 (.agg #[.int .i32 a3316, .int .i64 a3317, .int .i64 (IntKind.i64.wrap (a3318 + 1)), .slice A3435 l3434.length C3436, .int .i32 a3322, .int .i32 a3323, .int .i32 a3324, .int .i32 a3325, .int .i64 a3326, .int .i64 a3327, .int .u32 a3328, .int .i64 a3329]) (by kernel_rfl) (by kernel_rfl) (by kernel_rfl) ⟨_, rfl, A3435, C3436, rfl, (hS.re [] [0, 0] rfl (sub_cons 0 rfl (sub_tail (sub_tail (sub_tail (sub_self))))))⟩

/-! ### confidant/park.copied: function 44 -/
def park_copied.f (K : Nat) (a3297 : Int) (a3298 : Int) (a3299 : Int) (l3300 : List Int) (a3303 : Int) (a3304 : Int) (a3305 : Int) (a3306 : Int) (a3307 : Int) (a3308 : Int) (a3309 : Int) (a3310 : Int) (a3311 : Int) : Option S60 := b1 (task_Drop.f K a3297 a3298 a3299 l3300 a3303 a3304 a3305 a3306 a3307 a3308 a3309 a3310 0 ([] : List Int)) fun (t3456 : S36) => (some (⟨(⟨t3456.f0, t3456.f1, a3299, t3456.f3, (⟨t3456.f4.f0, t3456.f4.f1, t3456.f4.f2, t3456.f4.f3⟩ : S33), t3456.f5, t3456.f6, t3456.f7, t3456.f8⟩ : S36), a3311⟩ : S60))
set_option maxRecDepth 100000 in
theorem park_copied.calls {K : Nat} {a3297 : Int} {a3298 : Int} {a3299 : Int} {l3300 : List Int} {a3303 : Int} {a3304 : Int} {a3305 : Int} {a3306 : Int} {a3307 : Int} {a3308 : Int} {a3309 : Int} {a3310 : Int} {a3311 : Int} {A3301 : Option Addr} {C3302 : Nat} {x3445 : S60} {B w : World} {os : List Ass} {rs : List Ro} (H : park_copied.f K a3297 a3298 a3299 l3300 a3303 a3304 a3305 a3306 a3307 a3308 a3309 a3310 a3311 = some x3445) (hS : St B w (os) (Ro.sl (Kd.int .i32) A3301 C3302 l3300 :: rs)) :
    Calls Try.prog 44 [.agg #[.int .i32 a3297, .int .i64 a3298, .int .i64 a3299, .slice A3301 l3300.length C3302, .int .i32 a3303, .int .i32 a3304, .int .i32 a3305, .int .i32 a3306, .int .i64 a3307, .int .i64 a3308, .int .u32 a3309, .int .i64 a3310, .int .i32 a3311]].toArray w (fun en w' => ∃ v, en = .returned v ∧ ∃ A3446 : Option Addr, ∃ C3447 : Nat, v = .agg #[.int .i32 x3445.f0.f0, .int .i64 x3445.f0.f1, .int .i64 x3445.f0.f2, .slice A3446 x3445.f0.f3.length C3447, .int .i32 x3445.f0.f4.f0, .int .i32 x3445.f0.f4.f1, .int .i32 x3445.f0.f4.f2, .int .i32 x3445.f0.f4.f3, .int .i64 x3445.f0.f5, .int .i64 x3445.f0.f6, .int .u32 x3445.f0.f7, .int .i64 x3445.f0.f8, .int .i32 x3445.f1] ∧ St B w' (os) (Ro.sl (Kd.int .i32) A3446 C3447 x3445.f0.f3 :: Ro.sl (Kd.int .i32) A3301 C3302 l3300 :: rs)) := by
  unfold park_copied.f at H
  refine calls_of_EW (args := [.agg #[.int .i32 a3297, .int .i64 a3298, .int .i64 a3299, .slice A3301 l3300.length C3302, .int .i32 a3303, .int .i32 a3304, .int .i32 a3305, .int .i32 a3306, .int .i64 a3307, .int .i64 a3308, .int .u32 a3309, .int .i64 a3310, .int .i32 a3311]]) (c := Cd44) 15 Try.func44 (by kernel_rfl) (by kernel_rfl) (by kernel_rfl) ?_
  refine EW.seq (x := Cd44.l) (y := Cd44.r) (by kernel_rfl) ?_
  refine EW.region (id := 0) (ops := Cd44.l.ops) (by kernel_rfl) ?_
  refine EL.of (EO.box hS 60 (.agg #[.int .i32 a3297, .int .i64 a3298, .int .i64 a3299, .slice A3301 l3300.length C3302, .int .i32 a3303, .int .i32 a3304, .int .i32 a3305, .int .i32 a3306, .int .i64 a3307, .int .i64 a3308, .int .u32 a3309, .int .i64 a3310, .int .i32 a3311]) [.int .i32 a3297, .int .i64 a3298, .int .i64 a3299, .slice A3301 l3300.length C3302, .int .i32 a3303, .int .i32 a3304, .int .i32 a3305, .int .i32 a3306, .int .i64 a3307, .int .i64 a3308, .int .u32 a3309, .int .i64 a3310, .int .i32 a3311] 1 (by kernel_rfl) (by kernel_rfl) (by kernel_rfl) (by first | rfl | kernel_rfl) ?_)
  intro g3450 w hS
  refine EL.of (EO.alloc hS 60 (.agg #[.int .i32 0, .int .i64 0, .int .i64 0, .slice none ([] : List Int).length 0, .int .i32 0, .int .i32 0, .int .i32 0, .int .i32 0, .int .i64 0, .int .i64 0, .int .u32 0, .int .i64 0, .int .i32 0]) [.int .i32 0, .int .i64 0, .int .i64 0, .slice none ([] : List Int).length 0, .int .i32 0, .int .i32 0, .int .i32 0, .int .i32 0, .int .i64 0, .int .i64 0, .int .u32 0, .int .i64 0, .int .i32 0] 2 (by kernel_rfl) (by kernel_rfl) (by kernel_rfl) (by kernel_rfl) (by first | rfl | kernel_rfl) ?_)
  intro g3451 w hS
  refine EL.done (by kernel_rfl) ?_
  refine EQ.code ?_
  refine EW.seq (x := Cd44.r.l) (y := Cd44.r.r) (by kernel_rfl) ?_
  refine EW.region (id := 1) (ops := Cd44.r.l.ops) (by kernel_rfl) ?_
  refine EL.quick 2 [1, 2, 5] [(1, .pointer (some ⟨g3450, 0, none⟩)), (2, .pointer (some ⟨g3451, 0, none⟩)), (5, .pointer (some ⟨g3450, 2, none⟩))] (by kernel_rfl) ?_
  refine EL.of (EO.Y (YO.loadBox hS 1 rfl 3 2 1 (.int .i64 a3299) 6 (by kernel_rfl) (by kernel_rfl) (by kernel_rfl) (by kernel_rfl)) ?_)
  refine EL.quick 1 [1, 2, 3] [(1, .pointer (some ⟨g3450, 0, none⟩)), (2, .pointer (some ⟨g3451, 0, none⟩)), (3, .int .i64 a3299)] (by kernel_rfl) ?_
  refine EL.done (by kernel_rfl) ?_
  refine EQ.code ?_
  refine EW.seq (x := Cd44.r.r.l) (y := Cd44.r.r.r) (by kernel_rfl) ?_
  refine EW.region (id := 2) (ops := Cd44.r.r.l.ops) (by kernel_rfl) ?_
  refine EL.quick 1 [1, 2, 3, 7] [(1, .pointer (some ⟨g3450, 0, none⟩)), (2, .pointer (some ⟨g3451, 0, none⟩)), (3, .int .i64 a3299), (7, .pointer (some ⟨g3450, 0, none⟩))] (by kernel_rfl) ?_
  refine EL.of (EO.Y (YO.loadBox hS 1 rfl 36 0 12 (.agg #[.int .i32 a3297, .int .i64 a3298, .int .i64 a3299, .slice A3301 l3300.length C3302, .int .i32 a3303, .int .i32 a3304, .int .i32 a3305, .int .i32 a3306, .int .i64 a3307, .int .i64 a3308, .int .u32 a3309, .int .i64 a3310]) 8 (by kernel_rfl) (by kernel_rfl) (by kernel_rfl) (by kernel_rfl)) ?_)
  have hS := St.nilR hS (Kd.int .i32)
  have hS : St B _ (Ass.box 60 g3451 [.int .i32 0, .int .i64 0, .int .i64 0, .slice none ([] : List Int).length 0, .int .i32 0, .int .i32 0, .int .i32 0, .int .i32 0, .int .i64 0, .int .i64 0, .int .u32 0, .int .i64 0, .int .i32 0] :: Ass.box 60 g3450 [.int .i32 a3297, .int .i64 a3298, .int .i64 a3299, .slice A3301 l3300.length C3302, .int .i32 a3303, .int .i32 a3304, .int .i32 a3305, .int .i32 a3306, .int .i64 a3307, .int .i64 a3308, .int .u32 a3309, .int .i64 a3310, .int .i32 a3311] :: os) (Ro.sl (Kd.int .i32) A3301 C3302 l3300 :: Ro.sl (Kd.int .i32) none 0 ([] : List Int) :: Ro.sl (Kd.int .i32) none 0 ([] : List Int) :: Ro.sl (Kd.int .i32) A3301 C3302 l3300 :: rs) := hS.re [] [] rfl (sub_cons 1 rfl (sub_cons 0 rfl sub_self))
  obtain ⟨t3456, hc3459, H⟩ := b1_out H
  refine EL.of (EO.callD 65 [.agg #[.int .i32 a3297, .int .i64 a3298, .int .i64 a3299, .slice A3301 l3300.length C3302, .int .i32 a3303, .int .i32 a3304, .int .i32 a3305, .int .i32 a3306, .int .i64 a3307, .int .i64 a3308, .int .u32 a3309, .int .i64 a3310], .int .i64 0, .slice none ([] : List Int).length 0] _ 9 (by kernel_rfl) (by kernel_rfl) (by kernel_rfl) (task_Drop.calls hc3459 hS) ?_)
  rintro v w ⟨A3457, C3458, rfl, hS⟩
  refine EL.quick 1 [1, 2, 3, 9, 10] [(1, .pointer (some ⟨g3450, 0, none⟩)), (2, .pointer (some ⟨g3451, 0, none⟩)), (3, .int .i64 a3299), (9, .agg #[.int .i32 t3456.f0, .int .i64 t3456.f1, .int .i64 t3456.f2, .slice A3457 t3456.f3.length C3458, .int .i32 t3456.f4.f0, .int .i32 t3456.f4.f1, .int .i32 t3456.f4.f2, .int .i32 t3456.f4.f3, .int .i64 t3456.f5, .int .i64 t3456.f6, .int .u32 t3456.f7, .int .i64 t3456.f8]), (10, .pointer (some ⟨g3450, 0, none⟩))] (by kernel_rfl) ?_
  refine EL.of (EO.storeBox (os' := Ass.box 60 g3451 [.int .i32 0, .int .i64 0, .int .i64 0, .slice none ([] : List Int).length 0, .int .i32 0, .int .i32 0, .int .i32 0, .int .i32 0, .int .i64 0, .int .i64 0, .int .u32 0, .int .i64 0, .int .i32 0] :: Ass.box 60 g3450 [.int .i32 t3456.f0, .int .i64 t3456.f1, .int .i64 t3456.f2, .slice A3457 t3456.f3.length C3458, .int .i32 t3456.f4.f0, .int .i32 t3456.f4.f1, .int .i32 t3456.f4.f2, .int .i32 t3456.f4.f3, .int .i64 t3456.f5, .int .i64 t3456.f6, .int .u32 t3456.f7, .int .i64 t3456.f8, .int .i32 a3311] :: os) hS 1 rfl 36 0 (.agg #[.int .i32 t3456.f0, .int .i64 t3456.f1, .int .i64 t3456.f2, .slice A3457 t3456.f3.length C3458, .int .i32 t3456.f4.f0, .int .i32 t3456.f4.f1, .int .i32 t3456.f4.f2, .int .i32 t3456.f4.f3, .int .i64 t3456.f5, .int .i64 t3456.f6, .int .u32 t3456.f7, .int .i64 t3456.f8]) [.int .i32 t3456.f0, .int .i64 t3456.f1, .int .i64 t3456.f2, .slice A3457 t3456.f3.length C3458, .int .i32 t3456.f4.f0, .int .i32 t3456.f4.f1, .int .i32 t3456.f4.f2, .int .i32 t3456.f4.f3, .int .i64 t3456.f5, .int .i64 t3456.f6, .int .u32 t3456.f7, .int .i64 t3456.f8, .int .i32 a3311] (by kernel_rfl) (by kernel_rfl) (by kernel_rfl) (by kernel_rfl) (by kernel_rfl) (by kernel_rfl) rfl rfl ?_)
  intro w hS
  refine EL.done (by kernel_rfl) ?_
  refine EQ.code ?_
  refine EW.seq (x := Cd44.r.r.r.l) (y := Cd44.r.r.r.r) (by kernel_rfl) ?_
  refine EW.region (id := 3) (ops := Cd44.r.r.r.l.ops) (by kernel_rfl) ?_
  refine EL.quick 3 [1, 2, 11, 13] [(1, .pointer (some ⟨g3450, 0, none⟩)), (2, .pointer (some ⟨g3451, 0, none⟩)), (11, .int .i64 a3299), (13, .pointer (some ⟨g3450, 2, none⟩))] (by kernel_rfl) ?_
  refine EL.of (EO.storeBox (os' := Ass.box 60 g3451 [.int .i32 0, .int .i64 0, .int .i64 0, .slice none ([] : List Int).length 0, .int .i32 0, .int .i32 0, .int .i32 0, .int .i32 0, .int .i64 0, .int .i64 0, .int .u32 0, .int .i64 0, .int .i32 0] :: Ass.box 60 g3450 [.int .i32 t3456.f0, .int .i64 t3456.f1, .int .i64 a3299, .slice A3457 t3456.f3.length C3458, .int .i32 t3456.f4.f0, .int .i32 t3456.f4.f1, .int .i32 t3456.f4.f2, .int .i32 t3456.f4.f3, .int .i64 t3456.f5, .int .i64 t3456.f6, .int .u32 t3456.f7, .int .i64 t3456.f8, .int .i32 a3311] :: os) hS 1 rfl 3 2 (.int .i64 a3299) [.int .i32 t3456.f0, .int .i64 t3456.f1, .int .i64 a3299, .slice A3457 t3456.f3.length C3458, .int .i32 t3456.f4.f0, .int .i32 t3456.f4.f1, .int .i32 t3456.f4.f2, .int .i32 t3456.f4.f3, .int .i64 t3456.f5, .int .i64 t3456.f6, .int .u32 t3456.f7, .int .i64 t3456.f8, .int .i32 a3311] (by kernel_rfl) (by kernel_rfl) (by kernel_rfl) (by kernel_rfl) (by kernel_rfl) (by kernel_rfl) rfl rfl ?_)
  intro w hS
  refine EL.done (by kernel_rfl) ?_
  refine EQ.code ?_
  refine EW.seq (x := Cd44.r.r.r.r.l) (y := Cd44.r.r.r.r.r) (by kernel_rfl) ?_
  refine EW.region (id := 4) (ops := Cd44.r.r.r.r.l.ops) (by kernel_rfl) ?_
  refine EL.of (EO.Y (YO.loadBox hS 1 rfl 60 0 13 (.agg #[.int .i32 t3456.f0, .int .i64 t3456.f1, .int .i64 a3299, .slice A3457 t3456.f3.length C3458, .int .i32 t3456.f4.f0, .int .i32 t3456.f4.f1, .int .i32 t3456.f4.f2, .int .i32 t3456.f4.f3, .int .i64 t3456.f5, .int .i64 t3456.f6, .int .u32 t3456.f7, .int .i64 t3456.f8, .int .i32 a3311]) 14 (by kernel_rfl) (by kernel_rfl) (by kernel_rfl) (by kernel_rfl)) ?_)
  refine EL.of (EO.storeBox (os' := Ass.box 60 g3451 [.int .i32 t3456.f0, .int .i64 t3456.f1, .int .i64 a3299, .slice A3457 t3456.f3.length C3458, .int .i32 t3456.f4.f0, .int .i32 t3456.f4.f1, .int .i32 t3456.f4.f2, .int .i32 t3456.f4.f3, .int .i64 t3456.f5, .int .i64 t3456.f6, .int .u32 t3456.f7, .int .i64 t3456.f8, .int .i32 a3311] :: Ass.box 60 g3450 [.int .i32 t3456.f0, .int .i64 t3456.f1, .int .i64 a3299, .slice A3457 t3456.f3.length C3458, .int .i32 t3456.f4.f0, .int .i32 t3456.f4.f1, .int .i32 t3456.f4.f2, .int .i32 t3456.f4.f3, .int .i64 t3456.f5, .int .i64 t3456.f6, .int .u32 t3456.f7, .int .i64 t3456.f8, .int .i32 a3311] :: os) hS 0 rfl 60 0 (.agg #[.int .i32 t3456.f0, .int .i64 t3456.f1, .int .i64 a3299, .slice A3457 t3456.f3.length C3458, .int .i32 t3456.f4.f0, .int .i32 t3456.f4.f1, .int .i32 t3456.f4.f2, .int .i32 t3456.f4.f3, .int .i64 t3456.f5, .int .i64 t3456.f6, .int .u32 t3456.f7, .int .i64 t3456.f8, .int .i32 a3311]) [.int .i32 t3456.f0, .int .i64 t3456.f1, .int .i64 a3299, .slice A3457 t3456.f3.length C3458, .int .i32 t3456.f4.f0, .int .i32 t3456.f4.f1, .int .i32 t3456.f4.f2, .int .i32 t3456.f4.f3, .int .i64 t3456.f5, .int .i64 t3456.f6, .int .u32 t3456.f7, .int .i64 t3456.f8, .int .i32 a3311] (by kernel_rfl) (by kernel_rfl) (by kernel_rfl) (by kernel_rfl) (by kernel_rfl) (by kernel_rfl) rfl rfl ?_)
  intro w hS
  refine EL.done (by kernel_rfl) ?_
  refine EQ.code ?_
  refine EW.ret (by kernel_rfl) ?_
  obtain rfl := Option.some.inj H
  exact EQ.leaveC hS 0 rfl 2 60 0 13 (.agg #[.int .i32 t3456.f0, .int .i64 t3456.f1, .int .i64 a3299, .slice A3457 t3456.f3.length C3458, .int .i32 t3456.f4.f0, .int .i32 t3456.f4.f1, .int .i32 t3456.f4.f2, .int .i32 t3456.f4.f3, .int .i64 t3456.f5, .int .i64 t3456.f6, .int .u32 t3456.f7, .int .i64 t3456.f8, .int .i32 a3311]) (by kernel_rfl) (by kernel_rfl) (by kernel_rfl) ⟨_, rfl, A3457, C3458, rfl, (hS.re [] [0, 0] rfl (sub_cons 0 rfl (sub_tail (sub_tail (sub_tail (sub_tail (sub_self)))))))⟩

end Go.Proofs.Ytipaaapbapijhaa.G
