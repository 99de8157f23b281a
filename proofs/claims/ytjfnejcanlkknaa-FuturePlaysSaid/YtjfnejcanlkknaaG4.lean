import Derived.Test.YtjfnejcanlkknaaProg
import Derived.Test.YtjfnejcanlkknaaFwEq
import Derived.Test.YtjfnejcanlkknaaFwOpen
import Derived.Test.YtjfnejcanlkknaaG0
import Derived.Test.YtjfnejcanlkknaaG3
namespace Go.Proofs.Ytjfnejcanlkknaa.G
open Go Go.Fw Go.RowKit Go.Proofs
set_option linter.unusedVariables false
set_option linter.unusedSimpArgs false

/-! ### (*confidant/confidantref12.Futures).Make: function 47 -/
def confidantref12_Futures_Make.f (K : Nat) (l6943 : List Int) (l6947 : List (List S75)) (a6951 : Int) (a6952 : Int) : Option (List (List S75) × Int × Bool) := lt (fun (x7151 : Bool) => (if x7151 = true then (some (l6947, 0, false)) else (if 0 ≤ a6951 then (if a6951 < (l6947.length : Int) then (b2 (confidantref9_Of.f K a6951 ((l6947.getD a6951.toNat []).length : Int)) fun (t7180 : Int) (t7181 : Bool) => (lt ([(⟨a6952, 0, 0, 0⟩ : S75)] : List S75) fun l7184 => (if ((l6947.getD a6951.toNat []).length + l7184.length) * 32 ≤ 140737488355328 then (lt ((l6947.getD a6951.toNat []) ++ l7184) fun l7186 => (lt (l6947.set a6951.toNat l7186) fun l7189 => (some (l7189, t7180, true)))) else none))) else none) else none))) fun j7152 => (if a6951 < 0 then (j7152 true) else (if a6951 ≥ (l6947.length : Int) then (j7152 true) else (if 0 ≤ a6951 then (if a6951 < (l6947.length : Int) then (if a6951 < (l6943.length : Int) then (j7152 (decide (((l6947.getD a6951.toNat []).length : Int) ≥ (l6943.getD a6951.toNat 0)))) else none) else none) else none)))
set_option maxRecDepth 100000 in
theorem confidantref12_Futures_Make.calls {K : Nat} {l6943 : List Int} {l6947 : List (List S75)} {a6951 : Int} {a6952 : Int} {g6942 : Nat} {A6944 : Option Addr} {C6945 : Nat} {A6948 : Option Addr} {C6949 : Nat} {x7096 : List (List S75)} {x7099 : Int} {x7100 : Bool} {B w : World} {os : List Ass} {rs : List Ro} (H : confidantref12_Futures_Make.f K l6943 l6947 a6951 a6952 = some (x7096, x7099, x7100)) (hS : St B w (Ass.box 83 g6942 [.slice A6944 l6943.length C6945, .slice A6948 l6947.length C6949] :: Ass.own 3 (Kd.int .i64) A6944 C6945 l6943 :: Ass.deep 87 75 kS75 A6948 C6949 l6947 :: os) (rs)) :
    Calls Try.prog 47 [.pointer (some ⟨g6942, 0, none⟩), .int .i64 a6951, .int .i64 a6952].toArray w (fun en w' => ∃ v, en = .returned v ∧ ∃ A7097 : Option Addr, ∃ C7098 : Nat, v = .tuple #[.int .i32 x7099, .bool (x7100)] ∧ St B w' (Ass.box 83 g6942 [.slice A6944 l6943.length C6945, .slice A7097 x7096.length C7098] :: Ass.own 3 (Kd.int .i64) A6944 C6945 l6943 :: Ass.deep 87 75 kS75 A7097 C7098 x7096 :: os) (rs)) := by
  unfold confidantref12_Futures_Make.f at H
  refine calls_of_EW (args := [.pointer (some ⟨g6942, 0, none⟩), .int .i64 a6951, .int .i64 a6952]) (c := Cd47) 70 Try.func47 (by kernel_rfl) (by kernel_rfl) (by kernel_rfl) ?_
  refine EW.seq (x := Cd47.l) (y := Cd47.r) (by kernel_rfl) ?_
  refine EW.region (id := 0) (ops := Cd47.l.ops) (by kernel_rfl) ?_
  refine EL.quick 2 [0, 1, 2] [(0, .pointer (some ⟨g6942, 0, none⟩)), (1, .int .i64 a6951), (2, .int .i64 a6952)] (by kernel_rfl) ?_
  refine EL.done (by kernel_rfl) ?_
  refine EQ.code ?_
  refine EW.seq (x := Cd47.r.l) (y := Cd47.r.r) (by kernel_rfl) ?_
  obtain ⟨j7152, hj7152, H⟩ := lt_out H
  refine EW.cut (x := Cd47.r.l.l) (y := Cd47.r.l.r) (fun a w => ∃ x7151 : Bool, Sat 70 [(0, .pointer (some ⟨g6942, 0, none⟩)), (1, .int .i64 a6951), (2, .int .i64 a6952), (38, .bool (x7151))] a ∧ St B w (Ass.box 83 g6942 [.slice A6944 l6943.length C6945, .slice A6948 l6947.length C6949] :: Ass.own 3 (Kd.int .i64) A6944 C6945 l6943 :: Ass.deep 87 75 kS75 A6948 C6949 l6947 :: os) (rs) ∧ j7152 x7151 = some (x7096, x7099, x7100)) (by kernel_rfl) ?_ (fun a w hI => ?_)
  · by_cases h7153 : a6951 < 0
    · rw [if_pos h7153] at H
      have hS := hS.drew
      refine EW.draw (B := B) (id := 1) (ops := Cd47.r.l.l.ops) [Ass.box 83 g6942 [.slice A6944 l6943.length C6945, .slice A6948 l6947.length C6949], Ass.own 3 (Kd.int .i64) A6944 C6945 l6943, Ass.deep 87 75 kS75 A6948 C6949 l6947] [] (by kernel_rfl) (by kernel_rfl) ?_
      have hN : Region.noSelect Cd47.r.l.l.ops = true := (by kernel_rfl)
      have hF : freeAll Cd47.r.l.l.ops = true := (by kernel_rfl)
      have hC : Core B [Ass.box 83 g6942 [.slice A6944 l6943.length C6945, .slice A6948 l6947.length C6949], Ass.own 3 (Kd.int .i64) A6944 C6945 l6943, Ass.deep 87 75 kS75 A6948 C6949 l6947] [] _ := ⟨_, _, hS⟩
      refine ED.quick hN hF hC [0, 1, 2] [0, 1, 2, 12] 26 [(0, .pointer (some ⟨g6942, 0, none⟩)), (1, .int .i64 a6951), (2, .int .i64 a6952), (12, .bool (decide (a6951 < 0)))] #[true, true, true, false, false, false, false, false, false, false, false, false, false, false, false, false, false, false, false, false, false, false, false, false, false, false, false, false, false] (by kernel_rfl) (by kernel_rfl) ?_
      refine ED.keep [0, 1, 2, 12] [(0, .pointer (some ⟨g6942, 0, none⟩)), (1, .int .i64 a6951), (2, .int .i64 a6952), (12, .bool (decide (a6951 < 0)))] (by kernel_rfl) ?_
      refine ED.as' [(0, .pointer (some ⟨g6942, 0, none⟩)), (1, .int .i64 a6951), (2, .int .i64 a6952), (12, .bool (true))] (by simp only [dec_t h7153, Bool.not_true, Bool.not_false]) ?_
      refine ED.quick hN hF hC [3, 4, 5, 6, 7, 8, 9, 10, 11, 12, 13, 14, 15, 16, 17, 18, 19, 20, 21, 22, 23, 24, 25, 26, 27, 28] [0, 1, 2, 38] 0 [(0, .pointer (some ⟨g6942, 0, none⟩)), (1, .int .i64 a6951), (2, .int .i64 a6952), (38, .bool (true))] #[true, true, true, true, true, true, true, true, true, true, true, true, true, true, true, true, true, true, true, true, true, true, true, true, true, true, true, true, true] (by kernel_rfl) (by kernel_rfl) ?_
      refine ED.done (by kernel_rfl) ?_
      refine EQ.to ?_
      refine EQ.keep [0, 1, 2, 38] [(0, .pointer (some ⟨g6942, 0, none⟩)), (1, .int .i64 a6951), (2, .int .i64 a6952), (38, .bool (true))] (by kernel_rfl) ?_
      exact fun a ha => ⟨true, ha, (hS.re [2, 2, 2] [] rfl (sub_self)), H⟩
    · rw [if_neg h7153] at H
      by_cases h7154 : a6951 ≥ (l6947.length : Int)
      · rw [if_pos h7154] at H
        have hS := hS.drew
        refine EW.draw (B := B) (id := 1) (ops := Cd47.r.l.l.ops) [Ass.box 83 g6942 [.slice A6944 l6943.length C6945, .slice A6948 l6947.length C6949], Ass.own 3 (Kd.int .i64) A6944 C6945 l6943, Ass.deep 87 75 kS75 A6948 C6949 l6947] [] (by kernel_rfl) (by kernel_rfl) ?_
        have hN : Region.noSelect Cd47.r.l.l.ops = true := (by kernel_rfl)
        have hF : freeAll Cd47.r.l.l.ops = true := (by kernel_rfl)
        have hC : Core B [Ass.box 83 g6942 [.slice A6944 l6943.length C6945, .slice A6948 l6947.length C6949], Ass.own 3 (Kd.int .i64) A6944 C6945 l6943, Ass.deep 87 75 kS75 A6948 C6949 l6947] [] _ := ⟨_, _, hS⟩
        refine ED.quick hN hF hC [0, 1, 2] [0, 1, 2, 12] 26 [(0, .pointer (some ⟨g6942, 0, none⟩)), (1, .int .i64 a6951), (2, .int .i64 a6952), (12, .bool (decide (a6951 < 0)))] #[true, true, true, false, false, false, false, false, false, false, false, false, false, false, false, false, false, false, false, false, false, false, false, false, false, false, false, false, false] (by kernel_rfl) (by kernel_rfl) ?_
        refine ED.keep [0, 1, 2, 12] [(0, .pointer (some ⟨g6942, 0, none⟩)), (1, .int .i64 a6951), (2, .int .i64 a6952), (12, .bool (decide (a6951 < 0)))] (by kernel_rfl) ?_
        refine ED.as' [(0, .pointer (some ⟨g6942, 0, none⟩)), (1, .int .i64 a6951), (2, .int .i64 a6952), (12, .bool (false))] (by simp only [dec_f h7153, Bool.not_true, Bool.not_false]) ?_
        refine ED.quick hN hF hC [3, 4, 5, 6] [0, 1, 2, 12, 13, 16] 22 [(0, .pointer (some ⟨g6942, 0, none⟩)), (1, .int .i64 a6951), (2, .int .i64 a6952), (12, .bool (false)), (13, .int .i64 a6951), (16, .pointer (some ⟨g6942, 1, none⟩))] #[true, true, true, true, true, true, true, false, false, false, false, false, false, false, false, false, false, false, false, false, false, false, false, false, false, false, false, false, false] (by kernel_rfl) (by kernel_rfl) ?_
        refine ED.Y hN hF hC 7 21 #[true, true, true, true, true, true, true, true, false, false, false, false, false, false, false, false, false, false, false, false, false, false, false, false, false, false, false, false, false] (by kernel_rfl) (by kernel_rfl) rfl (fun _ _ _ hS => YO.loadBox hS 0 rfl 80 1 1 (.slice A6948 l6947.length C6949) 17 (by kernel_rfl) (by kernel_rfl) (by kernel_rfl) (by kernel_rfl)) ?_
        refine ED.quick hN hF hC [8, 9, 10, 11] [0, 1, 2, 21] 17 [(0, .pointer (some ⟨g6942, 0, none⟩)), (1, .int .i64 a6951), (2, .int .i64 a6952), (21, .bool (decide (a6951 ≥ (l6947.length : Int))))] #[true, true, true, true, true, true, true, true, true, true, true, true, false, false, false, false, false, false, false, false, false, false, false, false, false, false, false, false, false] (by kernel_rfl) (by kernel_rfl) ?_
        refine ED.keep [0, 1, 2, 21] [(0, .pointer (some ⟨g6942, 0, none⟩)), (1, .int .i64 a6951), (2, .int .i64 a6952), (21, .bool (decide (a6951 ≥ (l6947.length : Int))))] (by kernel_rfl) ?_
        refine ED.as' [(0, .pointer (some ⟨g6942, 0, none⟩)), (1, .int .i64 a6951), (2, .int .i64 a6952), (21, .bool (true))] (by simp only [dec_t h7154, Bool.not_true, Bool.not_false]) ?_
        refine ED.quick hN hF hC [12, 13, 14, 15, 16, 17, 18, 19, 20, 21, 22, 23, 24, 25, 26, 27, 28] [0, 1, 2, 38] 0 [(0, .pointer (some ⟨g6942, 0, none⟩)), (1, .int .i64 a6951), (2, .int .i64 a6952), (38, .bool (true))] #[true, true, true, true, true, true, true, true, true, true, true, true, true, true, true, true, true, true, true, true, true, true, true, true, true, true, true, true, true] (by kernel_rfl) (by kernel_rfl) ?_
        refine ED.done (by kernel_rfl) ?_
        refine EQ.to ?_
        refine EQ.keep [0, 1, 2, 38] [(0, .pointer (some ⟨g6942, 0, none⟩)), (1, .int .i64 a6951), (2, .int .i64 a6952), (38, .bool (true))] (by kernel_rfl) ?_
        exact fun a ha => ⟨true, ha, (hS.re [2, 2, 2] [] rfl (sub_self)), H⟩
      · rw [if_neg h7154] at H
        obtain ⟨h7155, H⟩ := ite_in H
        obtain ⟨h7156, H⟩ := ite_in H
        obtain ⟨ad7157, rfl⟩ := St.deep_some hS 2 rfl h7155 h7156
        obtain ⟨h7160, H⟩ := ite_in H
        obtain ⟨ad7161, rfl⟩ := St.rd_some hS (Rd.own 1 3 rfl) h7155 h7160
        have hS := hS.drew
        refine EW.draw (B := B) (id := 1) (ops := Cd47.r.l.l.ops) [Ass.box 83 g6942 [.slice (some ad7161) l6943.length C6945, .slice (some ad7157) l6947.length C6949], Ass.own 3 (Kd.int .i64) (some ad7161) C6945 l6943] [] (by kernel_rfl) (by kernel_rfl) ?_
        have hN : Region.noSelect Cd47.r.l.l.ops = true := (by kernel_rfl)
        have hF : freeAll Cd47.r.l.l.ops = true := (by kernel_rfl)
        have hC : Core B [Ass.box 83 g6942 [.slice (some ad7161) l6943.length C6945, .slice (some ad7157) l6947.length C6949], Ass.own 3 (Kd.int .i64) (some ad7161) C6945 l6943] [] _ := ⟨_, _, hS⟩
        refine ED.quick hN hF hC [0, 1, 2] [0, 1, 2, 12] 26 [(0, .pointer (some ⟨g6942, 0, none⟩)), (1, .int .i64 a6951), (2, .int .i64 a6952), (12, .bool (decide (a6951 < 0)))] #[true, true, true, false, false, false, false, false, false, false, false, false, false, false, false, false, false, false, false, false, false, false, false, false, false, false, false, false, false] (by kernel_rfl) (by kernel_rfl) ?_
        refine ED.keep [0, 1, 2, 12] [(0, .pointer (some ⟨g6942, 0, none⟩)), (1, .int .i64 a6951), (2, .int .i64 a6952), (12, .bool (decide (a6951 < 0)))] (by kernel_rfl) ?_
        refine ED.as' [(0, .pointer (some ⟨g6942, 0, none⟩)), (1, .int .i64 a6951), (2, .int .i64 a6952), (12, .bool (false))] (by simp only [dec_f h7153, Bool.not_true, Bool.not_false]) ?_
        refine ED.quick hN hF hC [3, 4, 5, 6] [0, 1, 2, 12, 13, 16] 22 [(0, .pointer (some ⟨g6942, 0, none⟩)), (1, .int .i64 a6951), (2, .int .i64 a6952), (12, .bool (false)), (13, .int .i64 a6951), (16, .pointer (some ⟨g6942, 1, none⟩))] #[true, true, true, true, true, true, true, false, false, false, false, false, false, false, false, false, false, false, false, false, false, false, false, false, false, false, false, false, false] (by kernel_rfl) (by kernel_rfl) ?_
        refine ED.Y hN hF hC 7 21 #[true, true, true, true, true, true, true, true, false, false, false, false, false, false, false, false, false, false, false, false, false, false, false, false, false, false, false, false, false] (by kernel_rfl) (by kernel_rfl) rfl (fun _ _ _ hS => YO.loadBox hS 0 rfl 80 1 1 (.slice (some ad7157) l6947.length C6949) 17 (by kernel_rfl) (by kernel_rfl) (by kernel_rfl) (by kernel_rfl)) ?_
        refine ED.quick hN hF hC [8, 9, 10, 11] [0, 1, 2, 21] 17 [(0, .pointer (some ⟨g6942, 0, none⟩)), (1, .int .i64 a6951), (2, .int .i64 a6952), (21, .bool (decide (a6951 ≥ (l6947.length : Int))))] #[true, true, true, true, true, true, true, true, true, true, true, true, false, false, false, false, false, false, false, false, false, false, false, false, false, false, false, false, false] (by kernel_rfl) (by kernel_rfl) ?_
        refine ED.keep [0, 1, 2, 21] [(0, .pointer (some ⟨g6942, 0, none⟩)), (1, .int .i64 a6951), (2, .int .i64 a6952), (21, .bool (decide (a6951 ≥ (l6947.length : Int))))] (by kernel_rfl) ?_
        refine ED.as' [(0, .pointer (some ⟨g6942, 0, none⟩)), (1, .int .i64 a6951), (2, .int .i64 a6952), (21, .bool (false))] (by simp only [dec_f h7154, Bool.not_true, Bool.not_false]) ?_
        refine ED.quick hN hF hC [12, 13, 14, 16, 20, 21, 22, 24] [0, 1, 2, 21, 24, 26, 32, 34] 9 [(0, .pointer (some ⟨g6942, 0, none⟩)), (1, .int .i64 a6951), (2, .int .i64 a6952), (21, .bool (false)), (24, .pointer (some ⟨g6942, 1, none⟩)), (26, .int .i64 a6951), (32, .pointer (some ⟨g6942, 0, none⟩)), (34, .int .i64 a6951)] #[true, true, true, true, true, true, true, true, true, true, true, true, true, true, true, false, true, false, false, false, true, true, true, false, true, false, false, false, false] (by kernel_rfl) (by kernel_rfl) ?_
        refine ED.Y hN hF hC 15 8 #[true, true, true, true, true, true, true, true, true, true, true, true, true, true, true, true, true, false, false, false, true, true, true, false, true, false, false, false, false] (by kernel_rfl) (by kernel_rfl) rfl (fun _ _ _ hS => YO.loadBox hS 0 rfl 80 1 1 (.slice (some ad7157) l6947.length C6949) 25 (by kernel_rfl) (by kernel_rfl) (by kernel_rfl) (by kernel_rfl)) ?_
        refine ED.Y hN hF hC 17 7 #[true, true, true, true, true, true, true, true, true, true, true, true, true, true, true, true, true, true, false, false, true, true, true, false, true, false, false, false, false] (by kernel_rfl) (by kernel_rfl) rfl (fun _ _ _ hS => YO.idx 80 1 ad7157 l6947.length C6949 .i64 a6951 27 (by kernel_rfl) (by kernel_rfl) (by kernel_rfl) (by kernel_rfl) h7155 h7156) ?_
        refine ED.Y hN hF hC 23 6 #[true, true, true, true, true, true, true, true, true, true, true, true, true, true, true, true, true, true, false, false, true, true, true, true, true, false, false, false, false] (by kernel_rfl) (by kernel_rfl) rfl (fun _ _ _ hS => YO.loadBox hS 0 rfl 24 0 1 (.slice (some ad7161) l6943.length C6945) 33 (by kernel_rfl) (by kernel_rfl) (by kernel_rfl) (by kernel_rfl)) ?_
        refine ED.Y hN hF hC 25 5 #[true, true, true, true, true, true, true, true, true, true, true, true, true, true, true, true, true, true, false, false, true, true, true, true, true, true, false, false, false] (by kernel_rfl) (by kernel_rfl) rfl (fun _ _ _ hS => YO.idx 24 1 ad7161 l6943.length C6945 .i64 a6951 35 (by kernel_rfl) (by kernel_rfl) (by kernel_rfl) (by kernel_rfl) h7155 h7160) ?_
        refine ED.Y hN hF hC 26 4 #[true, true, true, true, true, true, true, true, true, true, true, true, true, true, true, true, true, true, false, false, true, true, true, true, true, true, true, false, false] (by kernel_rfl) (by kernel_rfl) rfl (fun _ _ _ hS => YO.loadEl hS (Kd.int .i64) ad7161 C6945 l6943 (Rd.own 1 3 rfl) 0 (encI .i64) encI_of a6951 h7155 h7160 3 1 0 1 rfl (.int .i64 (l6943.getD a6951.toNat 0)) 36 (by kernel_rfl) (by kernel_rfl) (by kernel_rfl) (by kernel_rfl)) ?_
        refine ED.one 18 3 #[true, true, true, true, true, true, true, true, true, true, true, true, true, true, true, true, true, true, true, false, true, true, true, true, true, true, true, false, false] (by kernel_rfl) (by kernel_rfl) (by kernel_rfl) (EO.openEl hS 2 ad7157 rfl a6951 h7155 h7156 (fun A7164 C7165 => Ass.box 83 g6942 [.slice (some ad7161) l6943.length C6945, .slice (some ad7157) l6947.length C6949] :: Ass.own 3 (Kd.int .i64) (some ad7161) C6945 l6943 :: Ass.holed 87 75 kS75 (some ad7157) C6949 l6947 a6951.toNat (A7164, (l6947.getD a6951.toNat []).length, C7165) :: os) 87 28 (by kernel_rfl) (by kernel_rfl) (by kernel_rfl) (by kernel_rfl) (fun _ _ => rfl) ?_)
        intro A7164 C7165 hS
        have hC : Core B [Ass.box 83 g6942 [.slice (some ad7161) l6943.length C6945, .slice (some ad7157) l6947.length C6949], Ass.own 3 (Kd.int .i64) (some ad7161) C6945 l6943] [] _ := ⟨_, _, hS.re [2, 2] [] rfl sub_self⟩
        refine ⟨hC, ?_⟩
        refine ED.quick hN hF hC [19, 27, 28] [0, 1, 2, 38] 0 [(0, .pointer (some ⟨g6942, 0, none⟩)), (1, .int .i64 a6951), (2, .int .i64 a6952), (38, .bool (decide (((l6947.getD a6951.toNat []).length : Int) ≥ (l6943.getD a6951.toNat 0))))] #[true, true, true, true, true, true, true, true, true, true, true, true, true, true, true, true, true, true, true, true, true, true, true, true, true, true, true, true, true] (by kernel_rfl) (by kernel_rfl) ?_
        refine ED.done (by kernel_rfl) ?_
        refine EQ.to ?_
        have hS := St.as (os' := Ass.box 83 g6942 [.slice (some ad7161) l6943.length C6945, .slice (some ad7157) l6947.length C6949] :: Ass.own 3 (Kd.int .i64) (some ad7161) C6945 l6943 :: Ass.deep 87 75 kS75 (some ad7157) C6949 l6947 :: os) (St.close hS 0 2 rfl rfl rfl l6947 (set_getD _ _)) rfl
        refine EQ.keep [0, 1, 2, 38] [(0, .pointer (some ⟨g6942, 0, none⟩)), (1, .int .i64 a6951), (2, .int .i64 a6952), (38, .bool (decide (((l6947.getD a6951.toNat []).length : Int) ≥ (l6943.getD a6951.toNat 0))))] (by kernel_rfl) ?_
        exact fun a ha => ⟨decide (((l6947.getD a6951.toNat []).length : Int) ≥ (l6943.getD a6951.toNat 0)), ha, (hS.re [2, 2, 2] [] rfl (sub_self)), H⟩
  · obtain ⟨x7151, ha, hS, H⟩ := hI
    rw [hj7152] at H
    (try dsimp only at H)
    refine EW.at ?_ a ha
    clear ha a
    refine EW.condP' (o := (.tmp 38)) (x := Cd47.r.l.r.l) (y := Cd47.r.l.r.r) (x7151) (by kernel_rfl) (by kernel_rfl) (fun h7166 => ?_) (fun h7166 => ?_)
    · rw [if_pos h7166] at H
      refine EW.seq (x := Cd47.r.l.r.l.l) (y := Cd47.r.l.r.l.r) (by kernel_rfl) ?_
      refine EW.region (id := 2) (ops := Cd47.r.l.r.l.l.ops) (by kernel_rfl) ?_
      refine EL.quick 2 [6, 7] [(6, .int .i32 0), (7, .bool (false))] (by kernel_rfl) ?_
      refine EL.done (by kernel_rfl) ?_
      refine EQ.code ?_
      refine EW.ret (by kernel_rfl) ?_
      refine EQ.ret ?_
      simp only [Option.some.injEq, Prod.mk.injEq] at H
      obtain ⟨rfl, rfl, rfl⟩ := H
      exact EQ.leave (.tuple #[.int .i32 0, .bool (false)]) (by kernel_rfl) ⟨_, rfl, A6948, C6949, rfl, (hS.re [2, 2, 2] [] rfl (sub_self))⟩
    · rw [if_neg h7166] at H
      refine EW.skip (by kernel_rfl) ?_
      refine EQ.code ?_
      refine EW.seq (x := Cd47.r.r.l) (y := Cd47.r.r.r) (by kernel_rfl) ?_
      refine EW.region (id := 3) (ops := Cd47.r.r.l.ops) (by kernel_rfl) ?_
      refine EL.quick 4 [0, 1, 2, 40, 43] [(0, .pointer (some ⟨g6942, 0, none⟩)), (1, .int .i64 a6951), (2, .int .i64 a6952), (40, .int .i64 a6951), (43, .pointer (some ⟨g6942, 1, none⟩))] (by kernel_rfl) ?_
      refine EL.of (EO.Y (YO.loadBox hS 0 rfl 80 1 1 (.slice A6948 l6947.length C6949) 44 (by kernel_rfl) (by kernel_rfl) (by kernel_rfl) (by kernel_rfl)) ?_)
      refine EL.quick 1 [0, 1, 2, 40, 44, 45] [(0, .pointer (some ⟨g6942, 0, none⟩)), (1, .int .i64 a6951), (2, .int .i64 a6952), (40, .int .i64 a6951), (44, .slice A6948 l6947.length C6949), (45, .int .i64 a6951)] (by kernel_rfl) ?_
      obtain ⟨h7175, H⟩ := ite_in H
      obtain ⟨h7176, H⟩ := ite_in H
      obtain ⟨ad7177, rfl⟩ := St.deep_some hS 2 rfl h7175 h7176
      refine EL.of (EO.Y (YO.idx 80 1 ad7177 l6947.length C6949 .i64 a6951 46 (by kernel_rfl) (by kernel_rfl) (by kernel_rfl) (by kernel_rfl) h7175 h7176) ?_)
      refine EL.of (EO.openEl hS 2 ad7177 rfl a6951 h7175 h7176 (fun A7178 C7179 => Ass.box 83 g6942 [.slice A6944 l6943.length C6945, .slice (some ad7177) l6947.length C6949] :: Ass.own 3 (Kd.int .i64) A6944 C6945 l6943 :: Ass.holed 87 75 kS75 (some ad7177) C6949 l6947 a6951.toNat (A7178, (l6947.getD a6951.toNat []).length, C7179) :: os) 87 47 (by kernel_rfl) (by kernel_rfl) (by kernel_rfl) (by kernel_rfl) (fun _ _ => rfl) ?_)
      intro A7178 C7179 hS
      refine EL.quick 1 [0, 1, 2, 40, 48] [(0, .pointer (some ⟨g6942, 0, none⟩)), (1, .int .i64 a6951), (2, .int .i64 a6952), (40, .int .i64 a6951), (48, .int .i64 ((l6947.getD a6951.toNat []).length : Int))] (by kernel_rfl) ?_
      obtain ⟨t7180, t7181, hc7182, H⟩ := b2_out H
      refine EL.of (EO.callD 68 [.int .i64 a6951, .int .i64 ((l6947.getD a6951.toNat []).length : Int)] _ 49 (by kernel_rfl) (by kernel_rfl) (by kernel_rfl) (confidantref9_Of.calls hc7182 hS) ?_)
      rintro v w ⟨rfl, hS⟩
      refine EL.quick 5 [0, 1, 2, 8] [(0, .pointer (some ⟨g6942, 0, none⟩)), (1, .int .i64 a6951), (2, .int .i64 a6952), (8, .int .i32 t7180)] (by kernel_rfl) ?_
      refine EL.done (by kernel_rfl) ?_
      refine EQ.code ?_
      refine EW.seq (x := Cd47.r.r.r.l) (y := Cd47.r.r.r.r) (by kernel_rfl) ?_
      obtain ⟨l7184, hl7184, H⟩ := lt_out H
      obtain ⟨h7185, H⟩ := ite_in H
      obtain ⟨l7186, hl7186, H⟩ := lt_out H
      obtain ⟨l7189, hl7189, H⟩ := lt_out H
      refine EW.meet (id := 4) (ops := Cd47.r.r.r.l.ops) (fun a w => ∃ A7229 : Option Addr, ∃ C7230 : Nat, Sat 70 [(8, .int .i32 t7180)] a ∧ St B w (Ass.own 75 kS75 A7229 C7230 l7184 :: Ass.box 83 g6942 [.slice A6944 l6943.length C6945, .slice (some ad7177) l7189.length C6949] :: Ass.own 3 (Kd.int .i64) A6944 C6945 l6943 :: Ass.deep 87 75 kS75 (some ad7177) C6949 l7189 :: os) (rs)) (by kernel_rfl) ?_ (fun a w hI => ?_)
      · have hS := hS.drew
        refine EW.draw (B := B) (id := 4) (ops := Cd47.r.r.r.l.ops) [Ass.own 3 (Kd.int .i64) A6944 C6945 l6943] [] (by kernel_rfl) (by kernel_rfl) ?_
        have hN : Region.noSelect Cd47.r.r.r.l.ops = true := (by kernel_rfl)
        have hF : freeAll Cd47.r.r.r.l.ops = true := (by kernel_rfl)
        have hC : Core B [Ass.own 3 (Kd.int .i64) A6944 C6945 l6943] [] _ := ⟨_, _, hS.re [2] [] rfl sub_self⟩
        refine ED.quick hN hF hC [0, 1, 2, 4, 5, 6, 7, 9, 12, 13] [8, 54, 56, 59, 61, 65] 8 [(8, .int .i32 t7180), (54, .pointer (some ⟨g6942, 1, none⟩)), (56, .int .i64 a6951), (59, .pointer (some ⟨g6942, 1, none⟩)), (61, .int .i64 a6951), (65, .agg #[.int .i64 a6952, .int .i64 0, .int .i32 0, .int .i64 0])] #[true, true, true, false, true, true, true, true, false, true, false, false, true, true, false, false, false, false] (by kernel_rfl) (by kernel_rfl) ?_
        refine ED.many 3 [8, 14] 7 (by kernel_rfl) (by kernel_rfl) (Each.cons ?_ (Each.cons ?_ (Each.cons ?_ Each.nil)))
        · refine EO.Y (YO.loadBox hS 1 rfl 80 1 1 (.slice (some ad7177) l6947.length C6949) 55 (by kernel_rfl) (by kernel_rfl) (by kernel_rfl) (by kernel_rfl)) ?_
          have hC : Core B [Ass.own 3 (Kd.int .i64) A6944 C6945 l6943] [] _ := ⟨_, _, hS.re [2] [] rfl sub_self⟩
          refine ⟨hC, ?_⟩
          refine ED.at' #[true, true, true, true, true, true, true, true, false, true, false, false, true, true, false, false, false, false] (by kernel_rfl) ?_
          refine ED.two 8 14 6 (by kernel_rfl) (by kernel_rfl) ?_ ?_
          · refine EO.Y (YO.loadBox hS 1 rfl 80 1 1 (.slice (some ad7177) l6947.length C6949) 60 (by kernel_rfl) (by kernel_rfl) (by kernel_rfl) (by kernel_rfl)) ?_
            have hC : Core B [Ass.own 3 (Kd.int .i64) A6944 C6945 l6943] [] _ := ⟨_, _, hS.re [2] [] rfl sub_self⟩
            refine ⟨hC, ?_⟩
            refine ED.at' #[true, true, true, true, true, true, true, true, true, true, false, false, true, true, false, false, false, false] (by kernel_rfl) ?_
            refine ED.Y hN hF hC 10 5 #[true, true, true, true, true, true, true, true, true, true, true, false, true, true, false, false, false, false] (by kernel_rfl) (by kernel_rfl) rfl (fun _ _ _ hS => YO.idx 80 1 ad7177 l6947.length C6949 .i64 a6951 62 (by kernel_rfl) (by kernel_rfl) (by kernel_rfl) (by kernel_rfl) h7175 h7176) ?_
            refine ED.two 11 14 4 (by kernel_rfl) (by kernel_rfl) ?_ ?_
            · refine EO.Y (YO.loadHole hS 3 ad7177 (j := a6951) rfl h7175 87 63 (by kernel_rfl) (by kernel_rfl) (by kernel_rfl) (by kernel_rfl)) ?_
              have hC : Core B [Ass.own 3 (Kd.int .i64) A6944 C6945 l6943] [] _ := ⟨_, _, hS.re [2] [] rfl sub_self⟩
              refine ⟨hC, ?_⟩
              refine ED.at' #[true, true, true, true, true, true, true, true, true, true, true, true, true, true, false, false, false, false] (by kernel_rfl) ?_
              refine ED.one 14 3 #[true, true, true, true, true, true, true, true, true, true, true, true, true, true, true, false, false, false] (by kernel_rfl) (by kernel_rfl) (by kernel_rfl) (EO.lit hS kS75 75 87 1 #[(0, .agg #[.int .i64 a6952, .int .i64 0, .int .i32 0, .int .i64 0])] [.int .i64 a6952, .int .i64 0, .int .i32 0, .int .i64 0] l7184 66 (by kernel_rfl) (by kernel_rfl) (by kernel_rfl) (fun _ => (by kernel_rfl)) (by rw [hl7184]; rfl) (by kernel_rfl) (fun w G hr => (by rw [hl7184]; exact ⟨[.int .i64 a6952, .int .i64 0, .int .i32 0, .int .i64 0], [], rfl, ⟨[.int .i64 a6952], [.int .i64 0, .int .i32 0, .int .i64 0], rfl, rfl, ⟨[.int .i64 0], [.int .i32 0, .int .i64 0], rfl, rfl, ⟨[.int .i32 0], [.int .i64 0], rfl, rfl, ⟨[.int .i64 0], [], rfl, rfl, rfl⟩⟩⟩⟩, rfl⟩)) ?_)
              intro g7231 w hS
              have hC : Core B [Ass.own 3 (Kd.int .i64) A6944 C6945 l6943] [] _ := ⟨_, _, hS.re [3] [] rfl sub_self⟩
              refine ⟨hC, ?_⟩
              refine ED.one 15 2 #[true, true, true, true, true, true, true, true, true, true, true, true, true, true, true, true, false, false] (by kernel_rfl) (by kernel_rfl) (by kernel_rfl) (EO.append hS 87 87 75 32 1 kS75 A7178 C7179 (l6947.getD a6951.toNat []) rfl (some ⟨g7231, 0, none⟩) 1 l7184 (Rd.own 0 75 rfl) l7186 hl7186 (fun A7232 C7233 => Ass.own 75 kS75 (some ⟨g7231, 0, none⟩) 1 l7184 :: Ass.own 75 kS75 A7232 C7233 l7186 :: Ass.box 83 g6942 [.slice A6944 l6943.length C6945, .slice (some ad7177) l6947.length C6949] :: Ass.own 3 (Kd.int .i64) A6944 C6945 l6943 :: Ass.holed 87 75 kS75 (some ad7177) C6949 l6947 a6951.toNat (A7178, (l6947.getD a6951.toNat []).length, C7179) :: os) 67 (by kernel_rfl) (by kernel_rfl) (by kernel_rfl) (by kernel_rfl) h7185 (fun _ _ => rfl) ?_)
              intro A7232 C7233 w hS
              have hC : Core B [Ass.own 3 (Kd.int .i64) A6944 C6945 l6943] [] _ := ⟨_, _, hS.re [3] [] rfl sub_self⟩
              refine ⟨hC, ?_⟩
              refine ED.Y hN hF hC 16 1 #[true, true, true, true, true, true, true, true, true, true, true, true, true, true, true, true, true, false] (by kernel_rfl) (by kernel_rfl) rfl (fun _ _ _ hS => YO.idx 80 1 ad7177 l6947.length C6949 .i64 a6951 68 (by kernel_rfl) (by kernel_rfl) (by kernel_rfl) (by kernel_rfl) h7175 h7176) ?_
              refine ED.one 17 0 #[true, true, true, true, true, true, true, true, true, true, true, true, true, true, true, true, true, true] (by kernel_rfl) (by kernel_rfl) (by kernel_rfl) (EO.closeEl hS 1 3 ad7177 a6951 rfl rfl h7175 l7189 hl7189 (Ass.own 75 kS75 (some ⟨g7231, 0, none⟩) 1 l7184 :: Ass.box 83 g6942 [.slice A6944 l6943.length C6945, .slice (some ad7177) l6947.length C6949] :: Ass.own 3 (Kd.int .i64) A6944 C6945 l6943 :: Ass.deep 87 75 kS75 (some ad7177) C6949 l7189 :: os) 87 (by kernel_rfl) (by kernel_rfl) (by kernel_rfl) (by kernel_rfl) rfl ?_)
              intro w hS
              have hS : St B w (Ass.own 75 kS75 (some ⟨g7231, 0, none⟩) 1 l7184 :: Ass.box 83 g6942 [.slice A6944 l6943.length C6945, .slice (some ad7177) l7189.length C6949] :: Ass.own 3 (Kd.int .i64) A6944 C6945 l6943 :: Ass.deep 87 75 kS75 (some ad7177) C6949 l7189 :: os) (rs) := by simpa only [hl7189, List.length_set] using hS
              have hC : Core B [Ass.own 3 (Kd.int .i64) A6944 C6945 l6943] [] _ := ⟨_, _, hS.re [2] [] rfl sub_self⟩
              refine ⟨hC, ?_⟩
              refine ED.keep [8, 54, 55, 56, 59, 60, 61, 62, 65, 66, 68] [(8, .int .i32 t7180), (54, .pointer (some ⟨g6942, 1, none⟩)), (55, .slice (some ad7177) l6947.length C6949), (56, .int .i64 a6951), (59, .pointer (some ⟨g6942, 1, none⟩)), (60, .slice (some ad7177) l6947.length C6949), (61, .int .i64 a6951), (62, .pointer (some ((ad7177.add (a6951.toNat * 1)).add 0))), (65, .agg #[.int .i64 a6952, .int .i64 0, .int .i32 0, .int .i64 0]), (66, .slice (some ⟨g7231, 0, none⟩) l7184.length 1), (68, .pointer (some ((ad7177.add (a6951.toNat * 1)).add 0)))] (by kernel_rfl) ?_
              refine ED.as' [(8, .int .i32 t7180), (54, .pointer (some ⟨g6942, 1, none⟩)), (55, .slice (some ad7177) l7189.length C6949), (56, .int .i64 a6951), (59, .pointer (some ⟨g6942, 1, none⟩)), (60, .slice (some ad7177) l7189.length C6949), (61, .int .i64 a6951), (62, .pointer (some ((ad7177.add (a6951.toNat * 1)).add 0))), (65, .agg #[.int .i64 a6952, .int .i64 0, .int .i32 0, .int .i64 0]), (66, .slice (some ⟨g7231, 0, none⟩) l7184.length 1), (68, .pointer (some ((ad7177.add (a6951.toNat * 1)).add 0)))] (by simp only [hl7189, List.length_set]) ?_
              refine ED.done (by kernel_rfl) ?_
              refine EQ.to ?_
              refine EQ.keep [8] [(8, .int .i32 t7180)] (by kernel_rfl) ?_
              exact fun a ha => ⟨(some ⟨g7231, 0, none⟩), 1, ha, (hS.re [3, 3, 3, 3] [] rfl (sub_self))⟩
            · refine EO.lit hS kS75 75 87 1 #[(0, .agg #[.int .i64 a6952, .int .i64 0, .int .i32 0, .int .i64 0])] [.int .i64 a6952, .int .i64 0, .int .i32 0, .int .i64 0] l7184 66 (by kernel_rfl) (by kernel_rfl) (by kernel_rfl) (fun _ => (by kernel_rfl)) (by rw [hl7184]; rfl) (by kernel_rfl) (fun w G hr => (by rw [hl7184]; exact ⟨[.int .i64 a6952, .int .i64 0, .int .i32 0, .int .i64 0], [], rfl, ⟨[.int .i64 a6952], [.int .i64 0, .int .i32 0, .int .i64 0], rfl, rfl, ⟨[.int .i64 0], [.int .i32 0, .int .i64 0], rfl, rfl, ⟨[.int .i32 0], [.int .i64 0], rfl, rfl, ⟨[.int .i64 0], [], rfl, rfl, rfl⟩⟩⟩⟩, rfl⟩)) ?_
              intro g7234 w hS
              have hC : Core B [Ass.own 3 (Kd.int .i64) A6944 C6945 l6943] [] _ := ⟨_, _, hS.re [3] [] rfl sub_self⟩
              refine ⟨hC, ?_⟩
              refine ED.at' #[true, true, true, true, true, true, true, true, true, true, true, false, true, true, true, false, false, false] (by kernel_rfl) ?_
              refine ED.one 11 3 #[true, true, true, true, true, true, true, true, true, true, true, true, true, true, true, false, false, false] (by kernel_rfl) (by kernel_rfl) (by kernel_rfl) (EO.Y (YO.loadHole hS 4 ad7177 (j := a6951) rfl h7175 87 63 (by kernel_rfl) (by kernel_rfl) (by kernel_rfl) (by kernel_rfl)) ?_)
              have hC : Core B [Ass.own 3 (Kd.int .i64) A6944 C6945 l6943] [] _ := ⟨_, _, hS.re [3] [] rfl sub_self⟩
              refine ⟨hC, ?_⟩
              refine ED.one 15 2 #[true, true, true, true, true, true, true, true, true, true, true, true, true, true, true, true, false, false] (by kernel_rfl) (by kernel_rfl) (by kernel_rfl) (EO.append hS 87 87 75 32 1 kS75 A7178 C7179 (l6947.getD a6951.toNat []) rfl (some ⟨g7234, 0, none⟩) 1 l7184 (Rd.own 0 75 rfl) l7186 hl7186 (fun A7235 C7236 => Ass.own 75 kS75 (some ⟨g7234, 0, none⟩) 1 l7184 :: Ass.own 75 kS75 A7235 C7236 l7186 :: Ass.box 83 g6942 [.slice A6944 l6943.length C6945, .slice (some ad7177) l6947.length C6949] :: Ass.own 3 (Kd.int .i64) A6944 C6945 l6943 :: Ass.holed 87 75 kS75 (some ad7177) C6949 l6947 a6951.toNat (A7178, (l6947.getD a6951.toNat []).length, C7179) :: os) 67 (by kernel_rfl) (by kernel_rfl) (by kernel_rfl) (by kernel_rfl) h7185 (fun _ _ => rfl) ?_)
              intro A7235 C7236 w hS
              have hC : Core B [Ass.own 3 (Kd.int .i64) A6944 C6945 l6943] [] _ := ⟨_, _, hS.re [3] [] rfl sub_self⟩
              refine ⟨hC, ?_⟩
              refine ED.Y hN hF hC 16 1 #[true, true, true, true, true, true, true, true, true, true, true, true, true, true, true, true, true, false] (by kernel_rfl) (by kernel_rfl) rfl (fun _ _ _ hS => YO.idx 80 1 ad7177 l6947.length C6949 .i64 a6951 68 (by kernel_rfl) (by kernel_rfl) (by kernel_rfl) (by kernel_rfl) h7175 h7176) ?_
              refine ED.one 17 0 #[true, true, true, true, true, true, true, true, true, true, true, true, true, true, true, true, true, true] (by kernel_rfl) (by kernel_rfl) (by kernel_rfl) (EO.closeEl hS 1 3 ad7177 a6951 rfl rfl h7175 l7189 hl7189 (Ass.own 75 kS75 (some ⟨g7234, 0, none⟩) 1 l7184 :: Ass.box 83 g6942 [.slice A6944 l6943.length C6945, .slice (some ad7177) l6947.length C6949] :: Ass.own 3 (Kd.int .i64) A6944 C6945 l6943 :: Ass.deep 87 75 kS75 (some ad7177) C6949 l7189 :: os) 87 (by kernel_rfl) (by kernel_rfl) (by kernel_rfl) (by kernel_rfl) rfl ?_)
              intro w hS
              have hS : St B w (Ass.own 75 kS75 (some ⟨g7234, 0, none⟩) 1 l7184 :: Ass.box 83 g6942 [.slice A6944 l6943.length C6945, .slice (some ad7177) l7189.length C6949] :: Ass.own 3 (Kd.int .i64) A6944 C6945 l6943 :: Ass.deep 87 75 kS75 (some ad7177) C6949 l7189 :: os) (rs) := by simpa only [hl7189, List.length_set] using hS
              have hC : Core B [Ass.own 3 (Kd.int .i64) A6944 C6945 l6943] [] _ := ⟨_, _, hS.re [2] [] rfl sub_self⟩
              refine ⟨hC, ?_⟩
              refine ED.keep [8, 54, 55, 56, 59, 60, 61, 62, 65, 66, 68] [(8, .int .i32 t7180), (54, .pointer (some ⟨g6942, 1, none⟩)), (55, .slice (some ad7177) l6947.length C6949), (56, .int .i64 a6951), (59, .pointer (some ⟨g6942, 1, none⟩)), (60, .slice (some ad7177) l6947.length C6949), (61, .int .i64 a6951), (62, .pointer (some ((ad7177.add (a6951.toNat * 1)).add 0))), (65, .agg #[.int .i64 a6952, .int .i64 0, .int .i32 0, .int .i64 0]), (66, .slice (some ⟨g7234, 0, none⟩) l7184.length 1), (68, .pointer (some ((ad7177.add (a6951.toNat * 1)).add 0)))] (by kernel_rfl) ?_
              refine ED.as' [(8, .int .i32 t7180), (54, .pointer (some ⟨g6942, 1, none⟩)), (55, .slice (some ad7177) l7189.length C6949), (56, .int .i64 a6951), (59, .pointer (some ⟨g6942, 1, none⟩)), (60, .slice (some ad7177) l7189.length C6949), (61, .int .i64 a6951), (62, .pointer (some ((ad7177.add (a6951.toNat * 1)).add 0))), (65, .agg #[.int .i64 a6952, .int .i64 0, .int .i32 0, .int .i64 0]), (66, .slice (some ⟨g7234, 0, none⟩) l7184.length 1), (68, .pointer (some ((ad7177.add (a6951.toNat * 1)).add 0)))] (by simp only [hl7189, List.length_set]) ?_
              refine ED.done (by kernel_rfl) ?_
              refine EQ.to ?_
              refine EQ.keep [8] [(8, .int .i32 t7180)] (by kernel_rfl) ?_
              exact fun a ha => ⟨(some ⟨g7234, 0, none⟩), 1, ha, (hS.re [3, 3, 3, 3] [] rfl (sub_self))⟩
          · refine EO.lit hS kS75 75 87 1 #[(0, .agg #[.int .i64 a6952, .int .i64 0, .int .i32 0, .int .i64 0])] [.int .i64 a6952, .int .i64 0, .int .i32 0, .int .i64 0] l7184 66 (by kernel_rfl) (by kernel_rfl) (by kernel_rfl) (fun _ => (by kernel_rfl)) (by rw [hl7184]; rfl) (by kernel_rfl) (fun w G hr => (by rw [hl7184]; exact ⟨[.int .i64 a6952, .int .i64 0, .int .i32 0, .int .i64 0], [], rfl, ⟨[.int .i64 a6952], [.int .i64 0, .int .i32 0, .int .i64 0], rfl, rfl, ⟨[.int .i64 0], [.int .i32 0, .int .i64 0], rfl, rfl, ⟨[.int .i32 0], [.int .i64 0], rfl, rfl, ⟨[.int .i64 0], [], rfl, rfl, rfl⟩⟩⟩⟩, rfl⟩)) ?_
            intro g7237 w hS
            have hC : Core B [Ass.own 3 (Kd.int .i64) A6944 C6945 l6943] [] _ := ⟨_, _, hS.re [3] [] rfl sub_self⟩
            refine ⟨hC, ?_⟩
            refine ED.at' #[true, true, true, true, true, true, true, true, false, true, false, false, true, true, true, false, false, false] (by kernel_rfl) ?_
            refine ED.one 8 5 #[true, true, true, true, true, true, true, true, true, true, false, false, true, true, true, false, false, false] (by kernel_rfl) (by kernel_rfl) (by kernel_rfl) (EO.Y (YO.loadBox hS 2 rfl 80 1 1 (.slice (some ad7177) l6947.length C6949) 60 (by kernel_rfl) (by kernel_rfl) (by kernel_rfl) (by kernel_rfl)) ?_)
            have hC : Core B [Ass.own 3 (Kd.int .i64) A6944 C6945 l6943] [] _ := ⟨_, _, hS.re [3] [] rfl sub_self⟩
            refine ⟨hC, ?_⟩
            refine ED.Y hN hF hC 10 4 #[true, true, true, true, true, true, true, true, true, true, true, false, true, true, true, false, false, false] (by kernel_rfl) (by kernel_rfl) rfl (fun _ _ _ hS => YO.idx 80 1 ad7177 l6947.length C6949 .i64 a6951 62 (by kernel_rfl) (by kernel_rfl) (by kernel_rfl) (by kernel_rfl) h7175 h7176) ?_
            refine ED.one 11 3 #[true, true, true, true, true, true, true, true, true, true, true, true, true, true, true, false, false, false] (by kernel_rfl) (by kernel_rfl) (by kernel_rfl) (EO.Y (YO.loadHole hS 4 ad7177 (j := a6951) rfl h7175 87 63 (by kernel_rfl) (by kernel_rfl) (by kernel_rfl) (by kernel_rfl)) ?_)
            have hC : Core B [Ass.own 3 (Kd.int .i64) A6944 C6945 l6943] [] _ := ⟨_, _, hS.re [3] [] rfl sub_self⟩
            refine ⟨hC, ?_⟩
            refine ED.one 15 2 #[true, true, true, true, true, true, true, true, true, true, true, true, true, true, true, true, false, false] (by kernel_rfl) (by kernel_rfl) (by kernel_rfl) (EO.append hS 87 87 75 32 1 kS75 A7178 C7179 (l6947.getD a6951.toNat []) rfl (some ⟨g7237, 0, none⟩) 1 l7184 (Rd.own 0 75 rfl) l7186 hl7186 (fun A7238 C7239 => Ass.own 75 kS75 (some ⟨g7237, 0, none⟩) 1 l7184 :: Ass.own 75 kS75 A7238 C7239 l7186 :: Ass.box 83 g6942 [.slice A6944 l6943.length C6945, .slice (some ad7177) l6947.length C6949] :: Ass.own 3 (Kd.int .i64) A6944 C6945 l6943 :: Ass.holed 87 75 kS75 (some ad7177) C6949 l6947 a6951.toNat (A7178, (l6947.getD a6951.toNat []).length, C7179) :: os) 67 (by kernel_rfl) (by kernel_rfl) (by kernel_rfl) (by kernel_rfl) h7185 (fun _ _ => rfl) ?_)
            intro A7238 C7239 w hS
            have hC : Core B [Ass.own 3 (Kd.int .i64) A6944 C6945 l6943] [] _ := ⟨_, _, hS.re [3] [] rfl sub_self⟩
            refine ⟨hC, ?_⟩
            refine ED.Y hN hF hC 16 1 #[true, true, true, true, true, true, true, true, true, true, true, true, true, true, true, true, true, false] (by kernel_rfl) (by kernel_rfl) rfl (fun _ _ _ hS => YO.idx 80 1 ad7177 l6947.length C6949 .i64 a6951 68 (by kernel_rfl) (by kernel_rfl) (by kernel_rfl) (by kernel_rfl) h7175 h7176) ?_
            refine ED.one 17 0 #[true, true, true, true, true, true, true, true, true, true, true, true, true, true, true, true, true, true] (by kernel_rfl) (by kernel_rfl) (by kernel_rfl) (EO.closeEl hS 1 3 ad7177 a6951 rfl rfl h7175 l7189 hl7189 (Ass.own 75 kS75 (some ⟨g7237, 0, none⟩) 1 l7184 :: Ass.box 83 g6942 [.slice A6944 l6943.length C6945, .slice (some ad7177) l6947.length C6949] :: Ass.own 3 (Kd.int .i64) A6944 C6945 l6943 :: Ass.deep 87 75 kS75 (some ad7177) C6949 l7189 :: os) 87 (by kernel_rfl) (by kernel_rfl) (by kernel_rfl) (by kernel_rfl) rfl ?_)
            intro w hS
            have hS : St B w (Ass.own 75 kS75 (some ⟨g7237, 0, none⟩) 1 l7184 :: Ass.box 83 g6942 [.slice A6944 l6943.length C6945, .slice (some ad7177) l7189.length C6949] :: Ass.own 3 (Kd.int .i64) A6944 C6945 l6943 :: Ass.deep 87 75 kS75 (some ad7177) C6949 l7189 :: os) (rs) := by simpa only [hl7189, List.length_set] using hS
            have hC : Core B [Ass.own 3 (Kd.int .i64) A6944 C6945 l6943] [] _ := ⟨_, _, hS.re [2] [] rfl sub_self⟩
            refine ⟨hC, ?_⟩
            refine ED.keep [8, 54, 55, 56, 59, 60, 61, 62, 65, 66, 68] [(8, .int .i32 t7180), (54, .pointer (some ⟨g6942, 1, none⟩)), (55, .slice (some ad7177) l6947.length C6949), (56, .int .i64 a6951), (59, .pointer (some ⟨g6942, 1, none⟩)), (60, .slice (some ad7177) l6947.length C6949), (61, .int .i64 a6951), (62, .pointer (some ((ad7177.add (a6951.toNat * 1)).add 0))), (65, .agg #[.int .i64 a6952, .int .i64 0, .int .i32 0, .int .i64 0]), (66, .slice (some ⟨g7237, 0, none⟩) l7184.length 1), (68, .pointer (some ((ad7177.add (a6951.toNat * 1)).add 0)))] (by kernel_rfl) ?_
            refine ED.as' [(8, .int .i32 t7180), (54, .pointer (some ⟨g6942, 1, none⟩)), (55, .slice (some ad7177) l7189.length C6949), (56, .int .i64 a6951), (59, .pointer (some ⟨g6942, 1, none⟩)), (60, .slice (some ad7177) l7189.length C6949), (61, .int .i64 a6951), (62, .pointer (some ((ad7177.add (a6951.toNat * 1)).add 0))), (65, .agg #[.int .i64 a6952, .int .i64 0, .int .i32 0, .int .i64 0]), (66, .slice (some ⟨g7237, 0, none⟩) l7184.length 1), (68, .pointer (some ((ad7177.add (a6951.toNat * 1)).add 0)))] (by simp only [hl7189, List.length_set]) ?_
            refine ED.done (by kernel_rfl) ?_
            refine EQ.to ?_
            refine EQ.keep [8] [(8, .int .i32 t7180)] (by kernel_rfl) ?_
            exact fun a ha => ⟨(some ⟨g7237, 0, none⟩), 1, ha, (hS.re [3, 3, 3, 3] [] rfl (sub_self))⟩
        · refine EO.Y (YO.loadBox hS 1 rfl 80 1 1 (.slice (some ad7177) l6947.length C6949) 60 (by kernel_rfl) (by kernel_rfl) (by kernel_rfl) (by kernel_rfl)) ?_
          have hC : Core B [Ass.own 3 (Kd.int .i64) A6944 C6945 l6943] [] _ := ⟨_, _, hS.re [2] [] rfl sub_self⟩
          refine ⟨hC, ?_⟩
          refine ED.at' #[true, true, true, false, true, true, true, true, true, true, false, false, true, true, false, false, false, false] (by kernel_rfl) ?_
          refine ED.Y hN hF hC 10 6 #[true, true, true, false, true, true, true, true, true, true, true, false, true, true, false, false, false, false] (by kernel_rfl) (by kernel_rfl) rfl (fun _ _ _ hS => YO.idx 80 1 ad7177 l6947.length C6949 .i64 a6951 62 (by kernel_rfl) (by kernel_rfl) (by kernel_rfl) (by kernel_rfl) h7175 h7176) ?_
          refine ED.many 3 [11, 14] 5 (by kernel_rfl) (by kernel_rfl) (Each.cons ?_ (Each.cons ?_ (Each.cons ?_ Each.nil)))
          · refine EO.Y (YO.loadBox hS 1 rfl 80 1 1 (.slice (some ad7177) l6947.length C6949) 55 (by kernel_rfl) (by kernel_rfl) (by kernel_rfl) (by kernel_rfl)) ?_
            have hC : Core B [Ass.own 3 (Kd.int .i64) A6944 C6945 l6943] [] _ := ⟨_, _, hS.re [2] [] rfl sub_self⟩
            refine ⟨hC, ?_⟩
            refine ED.at' #[true, true, true, true, true, true, true, true, true, true, true, false, true, true, false, false, false, false] (by kernel_rfl) ?_
            refine ED.two 11 14 4 (by kernel_rfl) (by kernel_rfl) ?_ ?_
            · refine EO.Y (YO.loadHole hS 3 ad7177 (j := a6951) rfl h7175 87 63 (by kernel_rfl) (by kernel_rfl) (by kernel_rfl) (by kernel_rfl)) ?_
              have hC : Core B [Ass.own 3 (Kd.int .i64) A6944 C6945 l6943] [] _ := ⟨_, _, hS.re [2] [] rfl sub_self⟩
              refine ⟨hC, ?_⟩
              refine ED.at' #[true, true, true, true, true, true, true, true, true, true, true, true, true, true, false, false, false, false] (by kernel_rfl) ?_
              refine ED.one 14 3 #[true, true, true, true, true, true, true, true, true, true, true, true, true, true, true, false, false, false] (by kernel_rfl) (by kernel_rfl) (by kernel_rfl) (EO.lit hS kS75 75 87 1 #[(0, .agg #[.int .i64 a6952, .int .i64 0, .int .i32 0, .int .i64 0])] [.int .i64 a6952, .int .i64 0, .int .i32 0, .int .i64 0] l7184 66 (by kernel_rfl) (by kernel_rfl) (by kernel_rfl) (fun _ => (by kernel_rfl)) (by rw [hl7184]; rfl) (by kernel_rfl) (fun w G hr => (by rw [hl7184]; exact ⟨[.int .i64 a6952, .int .i64 0, .int .i32 0, .int .i64 0], [], rfl, ⟨[.int .i64 a6952], [.int .i64 0, .int .i32 0, .int .i64 0], rfl, rfl, ⟨[.int .i64 0], [.int .i32 0, .int .i64 0], rfl, rfl, ⟨[.int .i32 0], [.int .i64 0], rfl, rfl, ⟨[.int .i64 0], [], rfl, rfl, rfl⟩⟩⟩⟩, rfl⟩)) ?_)
              intro g7240 w hS
              have hC : Core B [Ass.own 3 (Kd.int .i64) A6944 C6945 l6943] [] _ := ⟨_, _, hS.re [3] [] rfl sub_self⟩
              refine ⟨hC, ?_⟩
              refine ED.one 15 2 #[true, true, true, true, true, true, true, true, true, true, true, true, true, true, true, true, false, false] (by kernel_rfl) (by kernel_rfl) (by kernel_rfl) (EO.append hS 87 87 75 32 1 kS75 A7178 C7179 (l6947.getD a6951.toNat []) rfl (some ⟨g7240, 0, none⟩) 1 l7184 (Rd.own 0 75 rfl) l7186 hl7186 (fun A7241 C7242 => Ass.own 75 kS75 (some ⟨g7240, 0, none⟩) 1 l7184 :: Ass.own 75 kS75 A7241 C7242 l7186 :: Ass.box 83 g6942 [.slice A6944 l6943.length C6945, .slice (some ad7177) l6947.length C6949] :: Ass.own 3 (Kd.int .i64) A6944 C6945 l6943 :: Ass.holed 87 75 kS75 (some ad7177) C6949 l6947 a6951.toNat (A7178, (l6947.getD a6951.toNat []).length, C7179) :: os) 67 (by kernel_rfl) (by kernel_rfl) (by kernel_rfl) (by kernel_rfl) h7185 (fun _ _ => rfl) ?_)
              intro A7241 C7242 w hS
              have hC : Core B [Ass.own 3 (Kd.int .i64) A6944 C6945 l6943] [] _ := ⟨_, _, hS.re [3] [] rfl sub_self⟩
              refine ⟨hC, ?_⟩
              refine ED.Y hN hF hC 16 1 #[true, true, true, true, true, true, true, true, true, true, true, true, true, true, true, true, true, false] (by kernel_rfl) (by kernel_rfl) rfl (fun _ _ _ hS => YO.idx 80 1 ad7177 l6947.length C6949 .i64 a6951 68 (by kernel_rfl) (by kernel_rfl) (by kernel_rfl) (by kernel_rfl) h7175 h7176) ?_
              refine ED.one 17 0 #[true, true, true, true, true, true, true, true, true, true, true, true, true, true, true, true, true, true] (by kernel_rfl) (by kernel_rfl) (by kernel_rfl) (EO.closeEl hS 1 3 ad7177 a6951 rfl rfl h7175 l7189 hl7189 (Ass.own 75 kS75 (some ⟨g7240, 0, none⟩) 1 l7184 :: Ass.box 83 g6942 [.slice A6944 l6943.length C6945, .slice (some ad7177) l6947.length C6949] :: Ass.own 3 (Kd.int .i64) A6944 C6945 l6943 :: Ass.deep 87 75 kS75 (some ad7177) C6949 l7189 :: os) 87 (by kernel_rfl) (by kernel_rfl) (by kernel_rfl) (by kernel_rfl) rfl ?_)
              intro w hS
              have hS : St B w (Ass.own 75 kS75 (some ⟨g7240, 0, none⟩) 1 l7184 :: Ass.box 83 g6942 [.slice A6944 l6943.length C6945, .slice (some ad7177) l7189.length C6949] :: Ass.own 3 (Kd.int .i64) A6944 C6945 l6943 :: Ass.deep 87 75 kS75 (some ad7177) C6949 l7189 :: os) (rs) := by simpa only [hl7189, List.length_set] using hS
              have hC : Core B [Ass.own 3 (Kd.int .i64) A6944 C6945 l6943] [] _ := ⟨_, _, hS.re [2] [] rfl sub_self⟩
              refine ⟨hC, ?_⟩
              refine ED.keep [8, 54, 55, 56, 59, 60, 61, 62, 65, 66, 68] [(8, .int .i32 t7180), (54, .pointer (some ⟨g6942, 1, none⟩)), (55, .slice (some ad7177) l6947.length C6949), (56, .int .i64 a6951), (59, .pointer (some ⟨g6942, 1, none⟩)), (60, .slice (some ad7177) l6947.length C6949), (61, .int .i64 a6951), (62, .pointer (some ((ad7177.add (a6951.toNat * 1)).add 0))), (65, .agg #[.int .i64 a6952, .int .i64 0, .int .i32 0, .int .i64 0]), (66, .slice (some ⟨g7240, 0, none⟩) l7184.length 1), (68, .pointer (some ((ad7177.add (a6951.toNat * 1)).add 0)))] (by kernel_rfl) ?_
              refine ED.as' [(8, .int .i32 t7180), (54, .pointer (some ⟨g6942, 1, none⟩)), (55, .slice (some ad7177) l7189.length C6949), (56, .int .i64 a6951), (59, .pointer (some ⟨g6942, 1, none⟩)), (60, .slice (some ad7177) l7189.length C6949), (61, .int .i64 a6951), (62, .pointer (some ((ad7177.add (a6951.toNat * 1)).add 0))), (65, .agg #[.int .i64 a6952, .int .i64 0, .int .i32 0, .int .i64 0]), (66, .slice (some ⟨g7240, 0, none⟩) l7184.length 1), (68, .pointer (some ((ad7177.add (a6951.toNat * 1)).add 0)))] (by simp only [hl7189, List.length_set]) ?_
              refine ED.done (by kernel_rfl) ?_
              refine EQ.to ?_
              refine EQ.keep [8] [(8, .int .i32 t7180)] (by kernel_rfl) ?_
              exact fun a ha => ⟨(some ⟨g7240, 0, none⟩), 1, ha, (hS.re [3, 3, 3, 3] [] rfl (sub_self))⟩
            · refine EO.lit hS kS75 75 87 1 #[(0, .agg #[.int .i64 a6952, .int .i64 0, .int .i32 0, .int .i64 0])] [.int .i64 a6952, .int .i64 0, .int .i32 0, .int .i64 0] l7184 66 (by kernel_rfl) (by kernel_rfl) (by kernel_rfl) (fun _ => (by kernel_rfl)) (by rw [hl7184]; rfl) (by kernel_rfl) (fun w G hr => (by rw [hl7184]; exact ⟨[.int .i64 a6952, .int .i64 0, .int .i32 0, .int .i64 0], [], rfl, ⟨[.int .i64 a6952], [.int .i64 0, .int .i32 0, .int .i64 0], rfl, rfl, ⟨[.int .i64 0], [.int .i32 0, .int .i64 0], rfl, rfl, ⟨[.int .i32 0], [.int .i64 0], rfl, rfl, ⟨[.int .i64 0], [], rfl, rfl, rfl⟩⟩⟩⟩, rfl⟩)) ?_
              intro g7243 w hS
              have hC : Core B [Ass.own 3 (Kd.int .i64) A6944 C6945 l6943] [] _ := ⟨_, _, hS.re [3] [] rfl sub_self⟩
              refine ⟨hC, ?_⟩
              refine ED.at' #[true, true, true, true, true, true, true, true, true, true, true, false, true, true, true, false, false, false] (by kernel_rfl) ?_
              refine ED.one 11 3 #[true, true, true, true, true, true, true, true, true, true, true, true, true, true, true, false, false, false] (by kernel_rfl) (by kernel_rfl) (by kernel_rfl) (EO.Y (YO.loadHole hS 4 ad7177 (j := a6951) rfl h7175 87 63 (by kernel_rfl) (by kernel_rfl) (by kernel_rfl) (by kernel_rfl)) ?_)
              have hC : Core B [Ass.own 3 (Kd.int .i64) A6944 C6945 l6943] [] _ := ⟨_, _, hS.re [3] [] rfl sub_self⟩
              refine ⟨hC, ?_⟩
              refine ED.one 15 2 #[true, true, true, true, true, true, true, true, true, true, true, true, true, true, true, true, false, false] (by kernel_rfl) (by kernel_rfl) (by kernel_rfl) (EO.append hS 87 87 75 32 1 kS75 A7178 C7179 (l6947.getD a6951.toNat []) rfl (some ⟨g7243, 0, none⟩) 1 l7184 (Rd.own 0 75 rfl) l7186 hl7186 (fun A7244 C7245 => Ass.own 75 kS75 (some ⟨g7243, 0, none⟩) 1 l7184 :: Ass.own 75 kS75 A7244 C7245 l7186 :: Ass.box 83 g6942 [.slice A6944 l6943.length C6945, .slice (some ad7177) l6947.length C6949] :: Ass.own 3 (Kd.int .i64) A6944 C6945 l6943 :: Ass.holed 87 75 kS75 (some ad7177) C6949 l6947 a6951.toNat (A7178, (l6947.getD a6951.toNat []).length, C7179) :: os) 67 (by kernel_rfl) (by kernel_rfl) (by kernel_rfl) (by kernel_rfl) h7185 (fun _ _ => rfl) ?_)
              intro A7244 C7245 w hS
              have hC : Core B [Ass.own 3 (Kd.int .i64) A6944 C6945 l6943] [] _ := ⟨_, _, hS.re [3] [] rfl sub_self⟩
              refine ⟨hC, ?_⟩
              refine ED.Y hN hF hC 16 1 #[true, true, true, true, true, true, true, true, true, true, true, true, true, true, true, true, true, false] (by kernel_rfl) (by kernel_rfl) rfl (fun _ _ _ hS => YO.idx 80 1 ad7177 l6947.length C6949 .i64 a6951 68 (by kernel_rfl) (by kernel_rfl) (by kernel_rfl) (by kernel_rfl) h7175 h7176) ?_
              refine ED.one 17 0 #[true, true, true, true, true, true, true, true, true, true, true, true, true, true, true, true, true, true] (by kernel_rfl) (by kernel_rfl) (by kernel_rfl) (EO.closeEl hS 1 3 ad7177 a6951 rfl rfl h7175 l7189 hl7189 (Ass.own 75 kS75 (some ⟨g7243, 0, none⟩) 1 l7184 :: Ass.box 83 g6942 [.slice A6944 l6943.length C6945, .slice (some ad7177) l6947.length C6949] :: Ass.own 3 (Kd.int .i64) A6944 C6945 l6943 :: Ass.deep 87 75 kS75 (some ad7177) C6949 l7189 :: os) 87 (by kernel_rfl) (by kernel_rfl) (by kernel_rfl) (by kernel_rfl) rfl ?_)
              intro w hS
              have hS : St B w (Ass.own 75 kS75 (some ⟨g7243, 0, none⟩) 1 l7184 :: Ass.box 83 g6942 [.slice A6944 l6943.length C6945, .slice (some ad7177) l7189.length C6949] :: Ass.own 3 (Kd.int .i64) A6944 C6945 l6943 :: Ass.deep 87 75 kS75 (some ad7177) C6949 l7189 :: os) (rs) := by simpa only [hl7189, List.length_set] using hS
              have hC : Core B [Ass.own 3 (Kd.int .i64) A6944 C6945 l6943] [] _ := ⟨_, _, hS.re [2] [] rfl sub_self⟩
              refine ⟨hC, ?_⟩
              refine ED.keep [8, 54, 55, 56, 59, 60, 61, 62, 65, 66, 68] [(8, .int .i32 t7180), (54, .pointer (some ⟨g6942, 1, none⟩)), (55, .slice (some ad7177) l6947.length C6949), (56, .int .i64 a6951), (59, .pointer (some ⟨g6942, 1, none⟩)), (60, .slice (some ad7177) l6947.length C6949), (61, .int .i64 a6951), (62, .pointer (some ((ad7177.add (a6951.toNat * 1)).add 0))), (65, .agg #[.int .i64 a6952, .int .i64 0, .int .i32 0, .int .i64 0]), (66, .slice (some ⟨g7243, 0, none⟩) l7184.length 1), (68, .pointer (some ((ad7177.add (a6951.toNat * 1)).add 0)))] (by kernel_rfl) ?_
              refine ED.as' [(8, .int .i32 t7180), (54, .pointer (some ⟨g6942, 1, none⟩)), (55, .slice (some ad7177) l7189.length C6949), (56, .int .i64 a6951), (59, .pointer (some ⟨g6942, 1, none⟩)), (60, .slice (some ad7177) l7189.length C6949), (61, .int .i64 a6951), (62, .pointer (some ((ad7177.add (a6951.toNat * 1)).add 0))), (65, .agg #[.int .i64 a6952, .int .i64 0, .int .i32 0, .int .i64 0]), (66, .slice (some ⟨g7243, 0, none⟩) l7184.length 1), (68, .pointer (some ((ad7177.add (a6951.toNat * 1)).add 0)))] (by simp only [hl7189, List.length_set]) ?_
              refine ED.done (by kernel_rfl) ?_
              refine EQ.to ?_
              refine EQ.keep [8] [(8, .int .i32 t7180)] (by kernel_rfl) ?_
              exact fun a ha => ⟨(some ⟨g7243, 0, none⟩), 1, ha, (hS.re [3, 3, 3, 3] [] rfl (sub_self))⟩
          · refine EO.Y (YO.loadHole hS 3 ad7177 (j := a6951) rfl h7175 87 63 (by kernel_rfl) (by kernel_rfl) (by kernel_rfl) (by kernel_rfl)) ?_
            have hC : Core B [Ass.own 3 (Kd.int .i64) A6944 C6945 l6943] [] _ := ⟨_, _, hS.re [2] [] rfl sub_self⟩
            refine ⟨hC, ?_⟩
            refine ED.at' #[true, true, true, false, true, true, true, true, true, true, true, true, true, true, false, false, false, false] (by kernel_rfl) ?_
            refine ED.two 3 14 4 (by kernel_rfl) (by kernel_rfl) ?_ ?_
            · refine EO.Y (YO.loadBox hS 1 rfl 80 1 1 (.slice (some ad7177) l6947.length C6949) 55 (by kernel_rfl) (by kernel_rfl) (by kernel_rfl) (by kernel_rfl)) ?_
              have hC : Core B [Ass.own 3 (Kd.int .i64) A6944 C6945 l6943] [] _ := ⟨_, _, hS.re [2] [] rfl sub_self⟩
              refine ⟨hC, ?_⟩
              refine ED.at' #[true, true, true, true, true, true, true, true, true, true, true, true, true, true, false, false, false, false] (by kernel_rfl) ?_
              refine ED.one 14 3 #[true, true, true, true, true, true, true, true, true, true, true, true, true, true, true, false, false, false] (by kernel_rfl) (by kernel_rfl) (by kernel_rfl) (EO.lit hS kS75 75 87 1 #[(0, .agg #[.int .i64 a6952, .int .i64 0, .int .i32 0, .int .i64 0])] [.int .i64 a6952, .int .i64 0, .int .i32 0, .int .i64 0] l7184 66 (by kernel_rfl) (by kernel_rfl) (by kernel_rfl) (fun _ => (by kernel_rfl)) (by rw [hl7184]; rfl) (by kernel_rfl) (fun w G hr => (by rw [hl7184]; exact ⟨[.int .i64 a6952, .int .i64 0, .int .i32 0, .int .i64 0], [], rfl, ⟨[.int .i64 a6952], [.int .i64 0, .int .i32 0, .int .i64 0], rfl, rfl, ⟨[.int .i64 0], [.int .i32 0, .int .i64 0], rfl, rfl, ⟨[.int .i32 0], [.int .i64 0], rfl, rfl, ⟨[.int .i64 0], [], rfl, rfl, rfl⟩⟩⟩⟩, rfl⟩)) ?_)
              intro g7246 w hS
              have hC : Core B [Ass.own 3 (Kd.int .i64) A6944 C6945 l6943] [] _ := ⟨_, _, hS.re [3] [] rfl sub_self⟩
              refine ⟨hC, ?_⟩
              refine ED.one 15 2 #[true, true, true, true, true, true, true, true, true, true, true, true, true, true, true, true, false, false] (by kernel_rfl) (by kernel_rfl) (by kernel_rfl) (EO.append hS 87 87 75 32 1 kS75 A7178 C7179 (l6947.getD a6951.toNat []) rfl (some ⟨g7246, 0, none⟩) 1 l7184 (Rd.own 0 75 rfl) l7186 hl7186 (fun A7247 C7248 => Ass.own 75 kS75 (some ⟨g7246, 0, none⟩) 1 l7184 :: Ass.own 75 kS75 A7247 C7248 l7186 :: Ass.box 83 g6942 [.slice A6944 l6943.length C6945, .slice (some ad7177) l6947.length C6949] :: Ass.own 3 (Kd.int .i64) A6944 C6945 l6943 :: Ass.holed 87 75 kS75 (some ad7177) C6949 l6947 a6951.toNat (A7178, (l6947.getD a6951.toNat []).length, C7179) :: os) 67 (by kernel_rfl) (by kernel_rfl) (by kernel_rfl) (by kernel_rfl) h7185 (fun _ _ => rfl) ?_)
              intro A7247 C7248 w hS
              have hC : Core B [Ass.own 3 (Kd.int .i64) A6944 C6945 l6943] [] _ := ⟨_, _, hS.re [3] [] rfl sub_self⟩
              refine ⟨hC, ?_⟩
              refine ED.Y hN hF hC 16 1 #[true, true, true, true, true, true, true, true, true, true, true, true, true, true, true, true, true, false] (by kernel_rfl) (by kernel_rfl) rfl (fun _ _ _ hS => YO.idx 80 1 ad7177 l6947.length C6949 .i64 a6951 68 (by kernel_rfl) (by kernel_rfl) (by kernel_rfl) (by kernel_rfl) h7175 h7176) ?_
              refine ED.one 17 0 #[true, true, true, true, true, true, true, true, true, true, true, true, true, true, true, true, true, true] (by kernel_rfl) (by kernel_rfl) (by kernel_rfl) (EO.closeEl hS 1 3 ad7177 a6951 rfl rfl h7175 l7189 hl7189 (Ass.own 75 kS75 (some ⟨g7246, 0, none⟩) 1 l7184 :: Ass.box 83 g6942 [.slice A6944 l6943.length C6945, .slice (some ad7177) l6947.length C6949] :: Ass.own 3 (Kd.int .i64) A6944 C6945 l6943 :: Ass.deep 87 75 kS75 (some ad7177) C6949 l7189 :: os) 87 (by kernel_rfl) (by kernel_rfl) (by kernel_rfl) (by kernel_rfl) rfl ?_)
              intro w hS
              have hS : St B w (Ass.own 75 kS75 (some ⟨g7246, 0, none⟩) 1 l7184 :: Ass.box 83 g6942 [.slice A6944 l6943.length C6945, .slice (some ad7177) l7189.length C6949] :: Ass.own 3 (Kd.int .i64) A6944 C6945 l6943 :: Ass.deep 87 75 kS75 (some ad7177) C6949 l7189 :: os) (rs) := by simpa only [hl7189, List.length_set] using hS
              have hC : Core B [Ass.own 3 (Kd.int .i64) A6944 C6945 l6943] [] _ := ⟨_, _, hS.re [2] [] rfl sub_self⟩
              refine ⟨hC, ?_⟩
              refine ED.keep [8, 54, 55, 56, 59, 60, 61, 62, 65, 66, 68] [(8, .int .i32 t7180), (54, .pointer (some ⟨g6942, 1, none⟩)), (55, .slice (some ad7177) l6947.length C6949), (56, .int .i64 a6951), (59, .pointer (some ⟨g6942, 1, none⟩)), (60, .slice (some ad7177) l6947.length C6949), (61, .int .i64 a6951), (62, .pointer (some ((ad7177.add (a6951.toNat * 1)).add 0))), (65, .agg #[.int .i64 a6952, .int .i64 0, .int .i32 0, .int .i64 0]), (66, .slice (some ⟨g7246, 0, none⟩) l7184.length 1), (68, .pointer (some ((ad7177.add (a6951.toNat * 1)).add 0)))] (by kernel_rfl) ?_
              refine ED.as' [(8, .int .i32 t7180), (54, .pointer (some ⟨g6942, 1, none⟩)), (55, .slice (some ad7177) l7189.length C6949), (56, .int .i64 a6951), (59, .pointer (some ⟨g6942, 1, none⟩)), (60, .slice (some ad7177) l7189.length C6949), (61, .int .i64 a6951), (62, .pointer (some ((ad7177.add (a6951.toNat * 1)).add 0))), (65, .agg #[.int .i64 a6952, .int .i64 0, .int .i32 0, .int .i64 0]), (66, .slice (some ⟨g7246, 0, none⟩) l7184.length 1), (68, .pointer (some ((ad7177.add (a6951.toNat * 1)).add 0)))] (by simp only [hl7189, List.length_set]) ?_
              refine ED.done (by kernel_rfl) ?_
              refine EQ.to ?_
              refine EQ.keep [8] [(8, .int .i32 t7180)] (by kernel_rfl) ?_
              exact fun a ha => ⟨(some ⟨g7246, 0, none⟩), 1, ha, (hS.re [3, 3, 3, 3] [] rfl (sub_self))⟩
            · refine EO.lit hS kS75 75 87 1 #[(0, .agg #[.int .i64 a6952, .int .i64 0, .int .i32 0, .int .i64 0])] [.int .i64 a6952, .int .i64 0, .int .i32 0, .int .i64 0] l7184 66 (by kernel_rfl) (by kernel_rfl) (by kernel_rfl) (fun _ => (by kernel_rfl)) (by rw [hl7184]; rfl) (by kernel_rfl) (fun w G hr => (by rw [hl7184]; exact ⟨[.int .i64 a6952, .int .i64 0, .int .i32 0, .int .i64 0], [], rfl, ⟨[.int .i64 a6952], [.int .i64 0, .int .i32 0, .int .i64 0], rfl, rfl, ⟨[.int .i64 0], [.int .i32 0, .int .i64 0], rfl, rfl, ⟨[.int .i32 0], [.int .i64 0], rfl, rfl, ⟨[.int .i64 0], [], rfl, rfl, rfl⟩⟩⟩⟩, rfl⟩)) ?_
              intro g7249 w hS
              have hC : Core B [Ass.own 3 (Kd.int .i64) A6944 C6945 l6943] [] _ := ⟨_, _, hS.re [3] [] rfl sub_self⟩
              refine ⟨hC, ?_⟩
              refine ED.at' #[true, true, true, false, true, true, true, true, true, true, true, true, true, true, true, false, false, false] (by kernel_rfl) ?_
              refine ED.two 3 15 3 (by kernel_rfl) (by kernel_rfl) ?_ ?_
              · refine EO.Y (YO.loadBox hS 2 rfl 80 1 1 (.slice (some ad7177) l6947.length C6949) 55 (by kernel_rfl) (by kernel_rfl) (by kernel_rfl) (by kernel_rfl)) ?_
                have hC : Core B [Ass.own 3 (Kd.int .i64) A6944 C6945 l6943] [] _ := ⟨_, _, hS.re [3] [] rfl sub_self⟩
                refine ⟨hC, ?_⟩
                refine ED.at' #[true, true, true, true, true, true, true, true, true, true, true, true, true, true, true, false, false, false] (by kernel_rfl) ?_
                refine ED.one 15 2 #[true, true, true, true, true, true, true, true, true, true, true, true, true, true, true, true, false, false] (by kernel_rfl) (by kernel_rfl) (by kernel_rfl) (EO.append hS 87 87 75 32 1 kS75 A7178 C7179 (l6947.getD a6951.toNat []) rfl (some ⟨g7249, 0, none⟩) 1 l7184 (Rd.own 0 75 rfl) l7186 hl7186 (fun A7250 C7251 => Ass.own 75 kS75 (some ⟨g7249, 0, none⟩) 1 l7184 :: Ass.own 75 kS75 A7250 C7251 l7186 :: Ass.box 83 g6942 [.slice A6944 l6943.length C6945, .slice (some ad7177) l6947.length C6949] :: Ass.own 3 (Kd.int .i64) A6944 C6945 l6943 :: Ass.holed 87 75 kS75 (some ad7177) C6949 l6947 a6951.toNat (A7178, (l6947.getD a6951.toNat []).length, C7179) :: os) 67 (by kernel_rfl) (by kernel_rfl) (by kernel_rfl) (by kernel_rfl) h7185 (fun _ _ => rfl) ?_)
                intro A7250 C7251 w hS
                have hC : Core B [Ass.own 3 (Kd.int .i64) A6944 C6945 l6943] [] _ := ⟨_, _, hS.re [3] [] rfl sub_self⟩
                refine ⟨hC, ?_⟩
                refine ED.Y hN hF hC 16 1 #[true, true, true, true, true, true, true, true, true, true, true, true, true, true, true, true, true, false] (by kernel_rfl) (by kernel_rfl) rfl (fun _ _ _ hS => YO.idx 80 1 ad7177 l6947.length C6949 .i64 a6951 68 (by kernel_rfl) (by kernel_rfl) (by kernel_rfl) (by kernel_rfl) h7175 h7176) ?_
                refine ED.one 17 0 #[true, true, true, true, true, true, true, true, true, true, true, true, true, true, true, true, true, true] (by kernel_rfl) (by kernel_rfl) (by kernel_rfl) (EO.closeEl hS 1 3 ad7177 a6951 rfl rfl h7175 l7189 hl7189 (Ass.own 75 kS75 (some ⟨g7249, 0, none⟩) 1 l7184 :: Ass.box 83 g6942 [.slice A6944 l6943.length C6945, .slice (some ad7177) l6947.length C6949] :: Ass.own 3 (Kd.int .i64) A6944 C6945 l6943 :: Ass.deep 87 75 kS75 (some ad7177) C6949 l7189 :: os) 87 (by kernel_rfl) (by kernel_rfl) (by kernel_rfl) (by kernel_rfl) rfl ?_)
                intro w hS
                have hS : St B w (Ass.own 75 kS75 (some ⟨g7249, 0, none⟩) 1 l7184 :: Ass.box 83 g6942 [.slice A6944 l6943.length C6945, .slice (some ad7177) l7189.length C6949] :: Ass.own 3 (Kd.int .i64) A6944 C6945 l6943 :: Ass.deep 87 75 kS75 (some ad7177) C6949 l7189 :: os) (rs) := by simpa only [hl7189, List.length_set] using hS
                have hC : Core B [Ass.own 3 (Kd.int .i64) A6944 C6945 l6943] [] _ := ⟨_, _, hS.re [2] [] rfl sub_self⟩
                refine ⟨hC, ?_⟩
                refine ED.keep [8, 54, 55, 56, 59, 60, 61, 62, 65, 66, 68] [(8, .int .i32 t7180), (54, .pointer (some ⟨g6942, 1, none⟩)), (55, .slice (some ad7177) l6947.length C6949), (56, .int .i64 a6951), (59, .pointer (some ⟨g6942, 1, none⟩)), (60, .slice (some ad7177) l6947.length C6949), (61, .int .i64 a6951), (62, .pointer (some ((ad7177.add (a6951.toNat * 1)).add 0))), (65, .agg #[.int .i64 a6952, .int .i64 0, .int .i32 0, .int .i64 0]), (66, .slice (some ⟨g7249, 0, none⟩) l7184.length 1), (68, .pointer (some ((ad7177.add (a6951.toNat * 1)).add 0)))] (by kernel_rfl) ?_
                refine ED.as' [(8, .int .i32 t7180), (54, .pointer (some ⟨g6942, 1, none⟩)), (55, .slice (some ad7177) l7189.length C6949), (56, .int .i64 a6951), (59, .pointer (some ⟨g6942, 1, none⟩)), (60, .slice (some ad7177) l7189.length C6949), (61, .int .i64 a6951), (62, .pointer (some ((ad7177.add (a6951.toNat * 1)).add 0))), (65, .agg #[.int .i64 a6952, .int .i64 0, .int .i32 0, .int .i64 0]), (66, .slice (some ⟨g7249, 0, none⟩) l7184.length 1), (68, .pointer (some ((ad7177.add (a6951.toNat * 1)).add 0)))] (by simp only [hl7189, List.length_set]) ?_
                refine ED.done (by kernel_rfl) ?_
                refine EQ.to ?_
                refine EQ.keep [8] [(8, .int .i32 t7180)] (by kernel_rfl) ?_
                exact fun a ha => ⟨(some ⟨g7249, 0, none⟩), 1, ha, (hS.re [3, 3, 3, 3] [] rfl (sub_self))⟩
              · refine EO.append hS 87 87 75 32 1 kS75 A7178 C7179 (l6947.getD a6951.toNat []) rfl (some ⟨g7249, 0, none⟩) 1 l7184 (Rd.own 0 75 rfl) l7186 hl7186 (fun A7252 C7253 => Ass.own 75 kS75 (some ⟨g7249, 0, none⟩) 1 l7184 :: Ass.own 75 kS75 A7252 C7253 l7186 :: Ass.box 83 g6942 [.slice A6944 l6943.length C6945, .slice (some ad7177) l6947.length C6949] :: Ass.own 3 (Kd.int .i64) A6944 C6945 l6943 :: Ass.holed 87 75 kS75 (some ad7177) C6949 l6947 a6951.toNat (A7178, (l6947.getD a6951.toNat []).length, C7179) :: os) 67 (by kernel_rfl) (by kernel_rfl) (by kernel_rfl) (by kernel_rfl) h7185 (fun _ _ => rfl) ?_
                intro A7252 C7253 w hS
                have hC : Core B [Ass.own 3 (Kd.int .i64) A6944 C6945 l6943] [] _ := ⟨_, _, hS.re [3] [] rfl sub_self⟩
                refine ⟨hC, ?_⟩
                refine ED.at' #[true, true, true, false, true, true, true, true, true, true, true, true, true, true, true, true, false, false] (by kernel_rfl) ?_
                refine ED.one 3 2 #[true, true, true, true, true, true, true, true, true, true, true, true, true, true, true, true, false, false] (by kernel_rfl) (by kernel_rfl) (by kernel_rfl) (EO.Y (YO.loadBox hS 2 rfl 80 1 1 (.slice (some ad7177) l6947.length C6949) 55 (by kernel_rfl) (by kernel_rfl) (by kernel_rfl) (by kernel_rfl)) ?_)
                have hC : Core B [Ass.own 3 (Kd.int .i64) A6944 C6945 l6943] [] _ := ⟨_, _, hS.re [3] [] rfl sub_self⟩
                refine ⟨hC, ?_⟩
                refine ED.Y hN hF hC 16 1 #[true, true, true, true, true, true, true, true, true, true, true, true, true, true, true, true, true, false] (by kernel_rfl) (by kernel_rfl) rfl (fun _ _ _ hS => YO.idx 80 1 ad7177 l6947.length C6949 .i64 a6951 68 (by kernel_rfl) (by kernel_rfl) (by kernel_rfl) (by kernel_rfl) h7175 h7176) ?_
                refine ED.one 17 0 #[true, true, true, true, true, true, true, true, true, true, true, true, true, true, true, true, true, true] (by kernel_rfl) (by kernel_rfl) (by kernel_rfl) (EO.closeEl hS 1 3 ad7177 a6951 rfl rfl h7175 l7189 hl7189 (Ass.own 75 kS75 (some ⟨g7249, 0, none⟩) 1 l7184 :: Ass.box 83 g6942 [.slice A6944 l6943.length C6945, .slice (some ad7177) l6947.length C6949] :: Ass.own 3 (Kd.int .i64) A6944 C6945 l6943 :: Ass.deep 87 75 kS75 (some ad7177) C6949 l7189 :: os) 87 (by kernel_rfl) (by kernel_rfl) (by kernel_rfl) (by kernel_rfl) rfl ?_)
                intro w hS
                have hS : St B w (Ass.own 75 kS75 (some ⟨g7249, 0, none⟩) 1 l7184 :: Ass.box 83 g6942 [.slice A6944 l6943.length C6945, .slice (some ad7177) l7189.length C6949] :: Ass.own 3 (Kd.int .i64) A6944 C6945 l6943 :: Ass.deep 87 75 kS75 (some ad7177) C6949 l7189 :: os) (rs) := by simpa only [hl7189, List.length_set] using hS
                have hC : Core B [Ass.own 3 (Kd.int .i64) A6944 C6945 l6943] [] _ := ⟨_, _, hS.re [2] [] rfl sub_self⟩
                refine ⟨hC, ?_⟩
                refine ED.keep [8, 54, 55, 56, 59, 60, 61, 62, 65, 66, 68] [(8, .int .i32 t7180), (54, .pointer (some ⟨g6942, 1, none⟩)), (55, .slice (some ad7177) l6947.length C6949), (56, .int .i64 a6951), (59, .pointer (some ⟨g6942, 1, none⟩)), (60, .slice (some ad7177) l6947.length C6949), (61, .int .i64 a6951), (62, .pointer (some ((ad7177.add (a6951.toNat * 1)).add 0))), (65, .agg #[.int .i64 a6952, .int .i64 0, .int .i32 0, .int .i64 0]), (66, .slice (some ⟨g7249, 0, none⟩) l7184.length 1), (68, .pointer (some ((ad7177.add (a6951.toNat * 1)).add 0)))] (by kernel_rfl) ?_
                refine ED.as' [(8, .int .i32 t7180), (54, .pointer (some ⟨g6942, 1, none⟩)), (55, .slice (some ad7177) l7189.length C6949), (56, .int .i64 a6951), (59, .pointer (some ⟨g6942, 1, none⟩)), (60, .slice (some ad7177) l7189.length C6949), (61, .int .i64 a6951), (62, .pointer (some ((ad7177.add (a6951.toNat * 1)).add 0))), (65, .agg #[.int .i64 a6952, .int .i64 0, .int .i32 0, .int .i64 0]), (66, .slice (some ⟨g7249, 0, none⟩) l7184.length 1), (68, .pointer (some ((ad7177.add (a6951.toNat * 1)).add 0)))] (by simp only [hl7189, List.length_set]) ?_
                refine ED.done (by kernel_rfl) ?_
                refine EQ.to ?_
                refine EQ.keep [8] [(8, .int .i32 t7180)] (by kernel_rfl) ?_
                exact fun a ha => ⟨(some ⟨g7249, 0, none⟩), 1, ha, (hS.re [3, 3, 3, 3] [] rfl (sub_self))⟩
          · refine EO.lit hS kS75 75 87 1 #[(0, .agg #[.int .i64 a6952, .int .i64 0, .int .i32 0, .int .i64 0])] [.int .i64 a6952, .int .i64 0, .int .i32 0, .int .i64 0] l7184 66 (by kernel_rfl) (by kernel_rfl) (by kernel_rfl) (fun _ => (by kernel_rfl)) (by rw [hl7184]; rfl) (by kernel_rfl) (fun w G hr => (by rw [hl7184]; exact ⟨[.int .i64 a6952, .int .i64 0, .int .i32 0, .int .i64 0], [], rfl, ⟨[.int .i64 a6952], [.int .i64 0, .int .i32 0, .int .i64 0], rfl, rfl, ⟨[.int .i64 0], [.int .i32 0, .int .i64 0], rfl, rfl, ⟨[.int .i32 0], [.int .i64 0], rfl, rfl, ⟨[.int .i64 0], [], rfl, rfl, rfl⟩⟩⟩⟩, rfl⟩)) ?_
            intro g7254 w hS
            have hC : Core B [Ass.own 3 (Kd.int .i64) A6944 C6945 l6943] [] _ := ⟨_, _, hS.re [3] [] rfl sub_self⟩
            refine ⟨hC, ?_⟩
            refine ED.at' #[true, true, true, false, true, true, true, true, true, true, true, false, true, true, true, false, false, false] (by kernel_rfl) ?_
            refine ED.two 3 11 4 (by kernel_rfl) (by kernel_rfl) ?_ ?_
            · refine EO.Y (YO.loadBox hS 2 rfl 80 1 1 (.slice (some ad7177) l6947.length C6949) 55 (by kernel_rfl) (by kernel_rfl) (by kernel_rfl) (by kernel_rfl)) ?_
              have hC : Core B [Ass.own 3 (Kd.int .i64) A6944 C6945 l6943] [] _ := ⟨_, _, hS.re [3] [] rfl sub_self⟩
              refine ⟨hC, ?_⟩
              refine ED.at' #[true, true, true, true, true, true, true, true, true, true, true, false, true, true, true, false, false, false] (by kernel_rfl) ?_
              refine ED.one 11 3 #[true, true, true, true, true, true, true, true, true, true, true, true, true, true, true, false, false, false] (by kernel_rfl) (by kernel_rfl) (by kernel_rfl) (EO.Y (YO.loadHole hS 4 ad7177 (j := a6951) rfl h7175 87 63 (by kernel_rfl) (by kernel_rfl) (by kernel_rfl) (by kernel_rfl)) ?_)
              have hC : Core B [Ass.own 3 (Kd.int .i64) A6944 C6945 l6943] [] _ := ⟨_, _, hS.re [3] [] rfl sub_self⟩
              refine ⟨hC, ?_⟩
              refine ED.one 15 2 #[true, true, true, true, true, true, true, true, true, true, true, true, true, true, true, true, false, false] (by kernel_rfl) (by kernel_rfl) (by kernel_rfl) (EO.append hS 87 87 75 32 1 kS75 A7178 C7179 (l6947.getD a6951.toNat []) rfl (some ⟨g7254, 0, none⟩) 1 l7184 (Rd.own 0 75 rfl) l7186 hl7186 (fun A7255 C7256 => Ass.own 75 kS75 (some ⟨g7254, 0, none⟩) 1 l7184 :: Ass.own 75 kS75 A7255 C7256 l7186 :: Ass.box 83 g6942 [.slice A6944 l6943.length C6945, .slice (some ad7177) l6947.length C6949] :: Ass.own 3 (Kd.int .i64) A6944 C6945 l6943 :: Ass.holed 87 75 kS75 (some ad7177) C6949 l6947 a6951.toNat (A7178, (l6947.getD a6951.toNat []).length, C7179) :: os) 67 (by kernel_rfl) (by kernel_rfl) (by kernel_rfl) (by kernel_rfl) h7185 (fun _ _ => rfl) ?_)
              intro A7255 C7256 w hS
              have hC : Core B [Ass.own 3 (Kd.int .i64) A6944 C6945 l6943] [] _ := ⟨_, _, hS.re [3] [] rfl sub_self⟩
              refine ⟨hC, ?_⟩
              refine ED.Y hN hF hC 16 1 #[true, true, true, true, true, true, true, true, true, true, true, true, true, true, true, true, true, false] (by kernel_rfl) (by kernel_rfl) rfl (fun _ _ _ hS => YO.idx 80 1 ad7177 l6947.length C6949 .i64 a6951 68 (by kernel_rfl) (by kernel_rfl) (by kernel_rfl) (by kernel_rfl) h7175 h7176) ?_
              refine ED.one 17 0 #[true, true, true, true, true, true, true, true, true, true, true, true, true, true, true, true, true, true] (by kernel_rfl) (by kernel_rfl) (by kernel_rfl) (EO.closeEl hS 1 3 ad7177 a6951 rfl rfl h7175 l7189 hl7189 (Ass.own 75 kS75 (some ⟨g7254, 0, none⟩) 1 l7184 :: Ass.box 83 g6942 [.slice A6944 l6943.length C6945, .slice (some ad7177) l6947.length C6949] :: Ass.own 3 (Kd.int .i64) A6944 C6945 l6943 :: Ass.deep 87 75 kS75 (some ad7177) C6949 l7189 :: os) 87 (by kernel_rfl) (by kernel_rfl) (by kernel_rfl) (by kernel_rfl) rfl ?_)
              intro w hS
              have hS : St B w (Ass.own 75 kS75 (some ⟨g7254, 0, none⟩) 1 l7184 :: Ass.box 83 g6942 [.slice A6944 l6943.length C6945, .slice (some ad7177) l7189.length C6949] :: Ass.own 3 (Kd.int .i64) A6944 C6945 l6943 :: Ass.deep 87 75 kS75 (some ad7177) C6949 l7189 :: os) (rs) := by simpa only [hl7189, List.length_set] using hS
              have hC : Core B [Ass.own 3 (Kd.int .i64) A6944 C6945 l6943] [] _ := ⟨_, _, hS.re [2] [] rfl sub_self⟩
              refine ⟨hC, ?_⟩
              refine ED.keep [8, 54, 55, 56, 59, 60, 61, 62, 65, 66, 68] [(8, .int .i32 t7180), (54, .pointer (some ⟨g6942, 1, none⟩)), (55, .slice (some ad7177) l6947.length C6949), (56, .int .i64 a6951), (59, .pointer (some ⟨g6942, 1, none⟩)), (60, .slice (some ad7177) l6947.length C6949), (61, .int .i64 a6951), (62, .pointer (some ((ad7177.add (a6951.toNat * 1)).add 0))), (65, .agg #[.int .i64 a6952, .int .i64 0, .int .i32 0, .int .i64 0]), (66, .slice (some ⟨g7254, 0, none⟩) l7184.length 1), (68, .pointer (some ((ad7177.add (a6951.toNat * 1)).add 0)))] (by kernel_rfl) ?_
              refine ED.as' [(8, .int .i32 t7180), (54, .pointer (some ⟨g6942, 1, none⟩)), (55, .slice (some ad7177) l7189.length C6949), (56, .int .i64 a6951), (59, .pointer (some ⟨g6942, 1, none⟩)), (60, .slice (some ad7177) l7189.length C6949), (61, .int .i64 a6951), (62, .pointer (some ((ad7177.add (a6951.toNat * 1)).add 0))), (65, .agg #[.int .i64 a6952, .int .i64 0, .int .i32 0, .int .i64 0]), (66, .slice (some ⟨g7254, 0, none⟩) l7184.length 1), (68, .pointer (some ((ad7177.add (a6951.toNat * 1)).add 0)))] (by simp only [hl7189, List.length_set]) ?_
              refine ED.done (by kernel_rfl) ?_
              refine EQ.to ?_
              refine EQ.keep [8] [(8, .int .i32 t7180)] (by kernel_rfl) ?_
              exact fun a ha => ⟨(some ⟨g7254, 0, none⟩), 1, ha, (hS.re [3, 3, 3, 3] [] rfl (sub_self))⟩
            · refine EO.Y (YO.loadHole hS 4 ad7177 (j := a6951) rfl h7175 87 63 (by kernel_rfl) (by kernel_rfl) (by kernel_rfl) (by kernel_rfl)) ?_
              have hC : Core B [Ass.own 3 (Kd.int .i64) A6944 C6945 l6943] [] _ := ⟨_, _, hS.re [3] [] rfl sub_self⟩
              refine ⟨hC, ?_⟩
              refine ED.at' #[true, true, true, false, true, true, true, true, true, true, true, true, true, true, true, false, false, false] (by kernel_rfl) ?_
              refine ED.two 3 15 3 (by kernel_rfl) (by kernel_rfl) ?_ ?_
              · refine EO.Y (YO.loadBox hS 2 rfl 80 1 1 (.slice (some ad7177) l6947.length C6949) 55 (by kernel_rfl) (by kernel_rfl) (by kernel_rfl) (by kernel_rfl)) ?_
                have hC : Core B [Ass.own 3 (Kd.int .i64) A6944 C6945 l6943] [] _ := ⟨_, _, hS.re [3] [] rfl sub_self⟩
                refine ⟨hC, ?_⟩
                refine ED.at' #[true, true, true, true, true, true, true, true, true, true, true, true, true, true, true, false, false, false] (by kernel_rfl) ?_
                refine ED.one 15 2 #[true, true, true, true, true, true, true, true, true, true, true, true, true, true, true, true, false, false] (by kernel_rfl) (by kernel_rfl) (by kernel_rfl) (EO.append hS 87 87 75 32 1 kS75 A7178 C7179 (l6947.getD a6951.toNat []) rfl (some ⟨g7254, 0, none⟩) 1 l7184 (Rd.own 0 75 rfl) l7186 hl7186 (fun A7257 C7258 => Ass.own 75 kS75 (some ⟨g7254, 0, none⟩) 1 l7184 :: Ass.own 75 kS75 A7257 C7258 l7186 :: Ass.box 83 g6942 [.slice A6944 l6943.length C6945, .slice (some ad7177) l6947.length C6949] :: Ass.own 3 (Kd.int .i64) A6944 C6945 l6943 :: Ass.holed 87 75 kS75 (some ad7177) C6949 l6947 a6951.toNat (A7178, (l6947.getD a6951.toNat []).length, C7179) :: os) 67 (by kernel_rfl) (by kernel_rfl) (by kernel_rfl) (by kernel_rfl) h7185 (fun _ _ => rfl) ?_)
                intro A7257 C7258 w hS
                have hC : Core B [Ass.own 3 (Kd.int .i64) A6944 C6945 l6943] [] _ := ⟨_, _, hS.re [3] [] rfl sub_self⟩
                refine ⟨hC, ?_⟩
                refine ED.Y hN hF hC 16 1 #[true, true, true, true, true, true, true, true, true, true, true, true, true, true, true, true, true, false] (by kernel_rfl) (by kernel_rfl) rfl (fun _ _ _ hS => YO.idx 80 1 ad7177 l6947.length C6949 .i64 a6951 68 (by kernel_rfl) (by kernel_rfl) (by kernel_rfl) (by kernel_rfl) h7175 h7176) ?_
                refine ED.one 17 0 #[true, true, true, true, true, true, true, true, true, true, true, true, true, true, true, true, true, true] (by kernel_rfl) (by kernel_rfl) (by kernel_rfl) (EO.closeEl hS 1 3 ad7177 a6951 rfl rfl h7175 l7189 hl7189 (Ass.own 75 kS75 (some ⟨g7254, 0, none⟩) 1 l7184 :: Ass.box 83 g6942 [.slice A6944 l6943.length C6945, .slice (some ad7177) l6947.length C6949] :: Ass.own 3 (Kd.int .i64) A6944 C6945 l6943 :: Ass.deep 87 75 kS75 (some ad7177) C6949 l7189 :: os) 87 (by kernel_rfl) (by kernel_rfl) (by kernel_rfl) (by kernel_rfl) rfl ?_)
                intro w hS
                have hS : St B w (Ass.own 75 kS75 (some ⟨g7254, 0, none⟩) 1 l7184 :: Ass.box 83 g6942 [.slice A6944 l6943.length C6945, .slice (some ad7177) l7189.length C6949] :: Ass.own 3 (Kd.int .i64) A6944 C6945 l6943 :: Ass.deep 87 75 kS75 (some ad7177) C6949 l7189 :: os) (rs) := by simpa only [hl7189, List.length_set] using hS
                have hC : Core B [Ass.own 3 (Kd.int .i64) A6944 C6945 l6943] [] _ := ⟨_, _, hS.re [2] [] rfl sub_self⟩
                refine ⟨hC, ?_⟩
                refine ED.keep [8, 54, 55, 56, 59, 60, 61, 62, 65, 66, 68] [(8, .int .i32 t7180), (54, .pointer (some ⟨g6942, 1, none⟩)), (55, .slice (some ad7177) l6947.length C6949), (56, .int .i64 a6951), (59, .pointer (some ⟨g6942, 1, none⟩)), (60, .slice (some ad7177) l6947.length C6949), (61, .int .i64 a6951), (62, .pointer (some ((ad7177.add (a6951.toNat * 1)).add 0))), (65, .agg #[.int .i64 a6952, .int .i64 0, .int .i32 0, .int .i64 0]), (66, .slice (some ⟨g7254, 0, none⟩) l7184.length 1), (68, .pointer (some ((ad7177.add (a6951.toNat * 1)).add 0)))] (by kernel_rfl) ?_
                refine ED.as' [(8, .int .i32 t7180), (54, .pointer (some ⟨g6942, 1, none⟩)), (55, .slice (some ad7177) l7189.length C6949), (56, .int .i64 a6951), (59, .pointer (some ⟨g6942, 1, none⟩)), (60, .slice (some ad7177) l7189.length C6949), (61, .int .i64 a6951), (62, .pointer (some ((ad7177.add (a6951.toNat * 1)).add 0))), (65, .agg #[.int .i64 a6952, .int .i64 0, .int .i32 0, .int .i64 0]), (66, .slice (some ⟨g7254, 0, none⟩) l7184.length 1), (68, .pointer (some ((ad7177.add (a6951.toNat * 1)).add 0)))] (by simp only [hl7189, List.length_set]) ?_
                refine ED.done (by kernel_rfl) ?_
                refine EQ.to ?_
                refine EQ.keep [8] [(8, .int .i32 t7180)] (by kernel_rfl) ?_
                exact fun a ha => ⟨(some ⟨g7254, 0, none⟩), 1, ha, (hS.re [3, 3, 3, 3] [] rfl (sub_self))⟩
              · refine EO.append hS 87 87 75 32 1 kS75 A7178 C7179 (l6947.getD a6951.toNat []) rfl (some ⟨g7254, 0, none⟩) 1 l7184 (Rd.own 0 75 rfl) l7186 hl7186 (fun A7259 C7260 => Ass.own 75 kS75 (some ⟨g7254, 0, none⟩) 1 l7184 :: Ass.own 75 kS75 A7259 C7260 l7186 :: Ass.box 83 g6942 [.slice A6944 l6943.length C6945, .slice (some ad7177) l6947.length C6949] :: Ass.own 3 (Kd.int .i64) A6944 C6945 l6943 :: Ass.holed 87 75 kS75 (some ad7177) C6949 l6947 a6951.toNat (A7178, (l6947.getD a6951.toNat []).length, C7179) :: os) 67 (by kernel_rfl) (by kernel_rfl) (by kernel_rfl) (by kernel_rfl) h7185 (fun _ _ => rfl) ?_
                intro A7259 C7260 w hS
                have hC : Core B [Ass.own 3 (Kd.int .i64) A6944 C6945 l6943] [] _ := ⟨_, _, hS.re [3] [] rfl sub_self⟩
                refine ⟨hC, ?_⟩
                refine ED.at' #[true, true, true, false, true, true, true, true, true, true, true, true, true, true, true, true, false, false] (by kernel_rfl) ?_
                refine ED.one 3 2 #[true, true, true, true, true, true, true, true, true, true, true, true, true, true, true, true, false, false] (by kernel_rfl) (by kernel_rfl) (by kernel_rfl) (EO.Y (YO.loadBox hS 2 rfl 80 1 1 (.slice (some ad7177) l6947.length C6949) 55 (by kernel_rfl) (by kernel_rfl) (by kernel_rfl) (by kernel_rfl)) ?_)
                have hC : Core B [Ass.own 3 (Kd.int .i64) A6944 C6945 l6943] [] _ := ⟨_, _, hS.re [3] [] rfl sub_self⟩
                refine ⟨hC, ?_⟩
                refine ED.Y hN hF hC 16 1 #[true, true, true, true, true, true, true, true, true, true, true, true, true, true, true, true, true, false] (by kernel_rfl) (by kernel_rfl) rfl (fun _ _ _ hS => YO.idx 80 1 ad7177 l6947.length C6949 .i64 a6951 68 (by kernel_rfl) (by kernel_rfl) (by kernel_rfl) (by kernel_rfl) h7175 h7176) ?_
                refine ED.one 17 0 #[true, true, true, true, true, true, true, true, true, true, true, true, true, true, true, true, true, true] (by kernel_rfl) (by kernel_rfl) (by kernel_rfl) (EO.closeEl hS 1 3 ad7177 a6951 rfl rfl h7175 l7189 hl7189 (Ass.own 75 kS75 (some ⟨g7254, 0, none⟩) 1 l7184 :: Ass.box 83 g6942 [.slice A6944 l6943.length C6945, .slice (some ad7177) l6947.length C6949] :: Ass.own 3 (Kd.int .i64) A6944 C6945 l6943 :: Ass.deep 87 75 kS75 (some ad7177) C6949 l7189 :: os) 87 (by kernel_rfl) (by kernel_rfl) (by kernel_rfl) (by kernel_rfl) rfl ?_)
                intro w hS
                have hS : St B w (Ass.own 75 kS75 (some ⟨g7254, 0, none⟩) 1 l7184 :: Ass.box 83 g6942 [.slice A6944 l6943.length C6945, .slice (some ad7177) l7189.length C6949] :: Ass.own 3 (Kd.int .i64) A6944 C6945 l6943 :: Ass.deep 87 75 kS75 (some ad7177) C6949 l7189 :: os) (rs) := by simpa only [hl7189, List.length_set] using hS
                have hC : Core B [Ass.own 3 (Kd.int .i64) A6944 C6945 l6943] [] _ := ⟨_, _, hS.re [2] [] rfl sub_self⟩
                refine ⟨hC, ?_⟩
                refine ED.keep [8, 54, 55, 56, 59, 60, 61, 62, 65, 66, 68] [(8, .int .i32 t7180), (54, .pointer (some ⟨g6942, 1, none⟩)), (55, .slice (some ad7177) l6947.length C6949), (56, .int .i64 a6951), (59, .pointer (some ⟨g6942, 1, none⟩)), (60, .slice (some ad7177) l6947.length C6949), (61, .int .i64 a6951), (62, .pointer (some ((ad7177.add (a6951.toNat * 1)).add 0))), (65, .agg #[.int .i64 a6952, .int .i64 0, .int .i32 0, .int .i64 0]), (66, .slice (some ⟨g7254, 0, none⟩) l7184.length 1), (68, .pointer (some ((ad7177.add (a6951.toNat * 1)).add 0)))] (by kernel_rfl) ?_
                refine ED.as' [(8, .int .i32 t7180), (54, .pointer (some ⟨g6942, 1, none⟩)), (55, .slice (some ad7177) l7189.length C6949), (56, .int .i64 a6951), (59, .pointer (some ⟨g6942, 1, none⟩)), (60, .slice (some ad7177) l7189.length C6949), (61, .int .i64 a6951), (62, .pointer (some ((ad7177.add (a6951.toNat * 1)).add 0))), (65, .agg #[.int .i64 a6952, .int .i64 0, .int .i32 0, .int .i64 0]), (66, .slice (some ⟨g7254, 0, none⟩) l7184.length 1), (68, .pointer (some ((ad7177.add (a6951.toNat * 1)).add 0)))] (by simp only [hl7189, List.length_set]) ?_
                refine ED.done (by kernel_rfl) ?_
                refine EQ.to ?_
                refine EQ.keep [8] [(8, .int .i32 t7180)] (by kernel_rfl) ?_
                exact fun a ha => ⟨(some ⟨g7254, 0, none⟩), 1, ha, (hS.re [3, 3, 3, 3] [] rfl (sub_self))⟩
        · refine EO.lit hS kS75 75 87 1 #[(0, .agg #[.int .i64 a6952, .int .i64 0, .int .i32 0, .int .i64 0])] [.int .i64 a6952, .int .i64 0, .int .i32 0, .int .i64 0] l7184 66 (by kernel_rfl) (by kernel_rfl) (by kernel_rfl) (fun _ => (by kernel_rfl)) (by rw [hl7184]; rfl) (by kernel_rfl) (fun w G hr => (by rw [hl7184]; exact ⟨[.int .i64 a6952, .int .i64 0, .int .i32 0, .int .i64 0], [], rfl, ⟨[.int .i64 a6952], [.int .i64 0, .int .i32 0, .int .i64 0], rfl, rfl, ⟨[.int .i64 0], [.int .i32 0, .int .i64 0], rfl, rfl, ⟨[.int .i32 0], [.int .i64 0], rfl, rfl, ⟨[.int .i64 0], [], rfl, rfl, rfl⟩⟩⟩⟩, rfl⟩)) ?_
          intro g7261 w hS
          have hC : Core B [Ass.own 3 (Kd.int .i64) A6944 C6945 l6943] [] _ := ⟨_, _, hS.re [3] [] rfl sub_self⟩
          refine ⟨hC, ?_⟩
          refine ED.at' #[true, true, true, false, true, true, true, true, false, true, false, false, true, true, true, false, false, false] (by kernel_rfl) ?_
          refine ED.two 3 8 6 (by kernel_rfl) (by kernel_rfl) ?_ ?_
          · refine EO.Y (YO.loadBox hS 2 rfl 80 1 1 (.slice (some ad7177) l6947.length C6949) 55 (by kernel_rfl) (by kernel_rfl) (by kernel_rfl) (by kernel_rfl)) ?_
            have hC : Core B [Ass.own 3 (Kd.int .i64) A6944 C6945 l6943] [] _ := ⟨_, _, hS.re [3] [] rfl sub_self⟩
            refine ⟨hC, ?_⟩
            refine ED.at' #[true, true, true, true, true, true, true, true, false, true, false, false, true, true, true, false, false, false] (by kernel_rfl) ?_
            refine ED.one 8 5 #[true, true, true, true, true, true, true, true, true, true, false, false, true, true, true, false, false, false] (by kernel_rfl) (by kernel_rfl) (by kernel_rfl) (EO.Y (YO.loadBox hS 2 rfl 80 1 1 (.slice (some ad7177) l6947.length C6949) 60 (by kernel_rfl) (by kernel_rfl) (by kernel_rfl) (by kernel_rfl)) ?_)
            have hC : Core B [Ass.own 3 (Kd.int .i64) A6944 C6945 l6943] [] _ := ⟨_, _, hS.re [3] [] rfl sub_self⟩
            refine ⟨hC, ?_⟩
            refine ED.Y hN hF hC 10 4 #[true, true, true, true, true, true, true, true, true, true, true, false, true, true, true, false, false, false] (by kernel_rfl) (by kernel_rfl) rfl (fun _ _ _ hS => YO.idx 80 1 ad7177 l6947.length C6949 .i64 a6951 62 (by kernel_rfl) (by kernel_rfl) (by kernel_rfl) (by kernel_rfl) h7175 h7176) ?_
            refine ED.one 11 3 #[true, true, true, true, true, true, true, true, true, true, true, true, true, true, true, false, false, false] (by kernel_rfl) (by kernel_rfl) (by kernel_rfl) (EO.Y (YO.loadHole hS 4 ad7177 (j := a6951) rfl h7175 87 63 (by kernel_rfl) (by kernel_rfl) (by kernel_rfl) (by kernel_rfl)) ?_)
            have hC : Core B [Ass.own 3 (Kd.int .i64) A6944 C6945 l6943] [] _ := ⟨_, _, hS.re [3] [] rfl sub_self⟩
            refine ⟨hC, ?_⟩
            refine ED.one 15 2 #[true, true, true, true, true, true, true, true, true, true, true, true, true, true, true, true, false, false] (by kernel_rfl) (by kernel_rfl) (by kernel_rfl) (EO.append hS 87 87 75 32 1 kS75 A7178 C7179 (l6947.getD a6951.toNat []) rfl (some ⟨g7261, 0, none⟩) 1 l7184 (Rd.own 0 75 rfl) l7186 hl7186 (fun A7262 C7263 => Ass.own 75 kS75 (some ⟨g7261, 0, none⟩) 1 l7184 :: Ass.own 75 kS75 A7262 C7263 l7186 :: Ass.box 83 g6942 [.slice A6944 l6943.length C6945, .slice (some ad7177) l6947.length C6949] :: Ass.own 3 (Kd.int .i64) A6944 C6945 l6943 :: Ass.holed 87 75 kS75 (some ad7177) C6949 l6947 a6951.toNat (A7178, (l6947.getD a6951.toNat []).length, C7179) :: os) 67 (by kernel_rfl) (by kernel_rfl) (by kernel_rfl) (by kernel_rfl) h7185 (fun _ _ => rfl) ?_)
            intro A7262 C7263 w hS
            have hC : Core B [Ass.own 3 (Kd.int .i64) A6944 C6945 l6943] [] _ := ⟨_, _, hS.re [3] [] rfl sub_self⟩
            refine ⟨hC, ?_⟩
            refine ED.Y hN hF hC 16 1 #[true, true, true, true, true, true, true, true, true, true, true, true, true, true, true, true, true, false] (by kernel_rfl) (by kernel_rfl) rfl (fun _ _ _ hS => YO.idx 80 1 ad7177 l6947.length C6949 .i64 a6951 68 (by kernel_rfl) (by kernel_rfl) (by kernel_rfl) (by kernel_rfl) h7175 h7176) ?_
            refine ED.one 17 0 #[true, true, true, true, true, true, true, true, true, true, true, true, true, true, true, true, true, true] (by kernel_rfl) (by kernel_rfl) (by kernel_rfl) (EO.closeEl hS 1 3 ad7177 a6951 rfl rfl h7175 l7189 hl7189 (Ass.own 75 kS75 (some ⟨g7261, 0, none⟩) 1 l7184 :: Ass.box 83 g6942 [.slice A6944 l6943.length C6945, .slice (some ad7177) l6947.length C6949] :: Ass.own 3 (Kd.int .i64) A6944 C6945 l6943 :: Ass.deep 87 75 kS75 (some ad7177) C6949 l7189 :: os) 87 (by kernel_rfl) (by kernel_rfl) (by kernel_rfl) (by kernel_rfl) rfl ?_)
            intro w hS
            have hS : St B w (Ass.own 75 kS75 (some ⟨g7261, 0, none⟩) 1 l7184 :: Ass.box 83 g6942 [.slice A6944 l6943.length C6945, .slice (some ad7177) l7189.length C6949] :: Ass.own 3 (Kd.int .i64) A6944 C6945 l6943 :: Ass.deep 87 75 kS75 (some ad7177) C6949 l7189 :: os) (rs) := by simpa only [hl7189, List.length_set] using hS
            have hC : Core B [Ass.own 3 (Kd.int .i64) A6944 C6945 l6943] [] _ := ⟨_, _, hS.re [2] [] rfl sub_self⟩
            refine ⟨hC, ?_⟩
            refine ED.keep [8, 54, 55, 56, 59, 60, 61, 62, 65, 66, 68] [(8, .int .i32 t7180), (54, .pointer (some ⟨g6942, 1, none⟩)), (55, .slice (some ad7177) l6947.length C6949), (56, .int .i64 a6951), (59, .pointer (some ⟨g6942, 1, none⟩)), (60, .slice (some ad7177) l6947.length C6949), (61, .int .i64 a6951), (62, .pointer (some ((ad7177.add (a6951.toNat * 1)).add 0))), (65, .agg #[.int .i64 a6952, .int .i64 0, .int .i32 0, .int .i64 0]), (66, .slice (some ⟨g7261, 0, none⟩) l7184.length 1), (68, .pointer (some ((ad7177.add (a6951.toNat * 1)).add 0)))] (by kernel_rfl) ?_
            refine ED.as' [(8, .int .i32 t7180), (54, .pointer (some ⟨g6942, 1, none⟩)), (55, .slice (some ad7177) l7189.length C6949), (56, .int .i64 a6951), (59, .pointer (some ⟨g6942, 1, none⟩)), (60, .slice (some ad7177) l7189.length C6949), (61, .int .i64 a6951), (62, .pointer (some ((ad7177.add (a6951.toNat * 1)).add 0))), (65, .agg #[.int .i64 a6952, .int .i64 0, .int .i32 0, .int .i64 0]), (66, .slice (some ⟨g7261, 0, none⟩) l7184.length 1), (68, .pointer (some ((ad7177.add (a6951.toNat * 1)).add 0)))] (by simp only [hl7189, List.length_set]) ?_
            refine ED.done (by kernel_rfl) ?_
            refine EQ.to ?_
            refine EQ.keep [8] [(8, .int .i32 t7180)] (by kernel_rfl) ?_
            exact fun a ha => ⟨(some ⟨g7261, 0, none⟩), 1, ha, (hS.re [3, 3, 3, 3] [] rfl (sub_self))⟩
          · refine EO.Y (YO.loadBox hS 2 rfl 80 1 1 (.slice (some ad7177) l6947.length C6949) 60 (by kernel_rfl) (by kernel_rfl) (by kernel_rfl) (by kernel_rfl)) ?_
            have hC : Core B [Ass.own 3 (Kd.int .i64) A6944 C6945 l6943] [] _ := ⟨_, _, hS.re [3] [] rfl sub_self⟩
            refine ⟨hC, ?_⟩
            refine ED.at' #[true, true, true, false, true, true, true, true, true, true, false, false, true, true, true, false, false, false] (by kernel_rfl) ?_
            refine ED.Y hN hF hC 10 5 #[true, true, true, false, true, true, true, true, true, true, true, false, true, true, true, false, false, false] (by kernel_rfl) (by kernel_rfl) rfl (fun _ _ _ hS => YO.idx 80 1 ad7177 l6947.length C6949 .i64 a6951 62 (by kernel_rfl) (by kernel_rfl) (by kernel_rfl) (by kernel_rfl) h7175 h7176) ?_
            refine ED.two 3 11 4 (by kernel_rfl) (by kernel_rfl) ?_ ?_
            · refine EO.Y (YO.loadBox hS 2 rfl 80 1 1 (.slice (some ad7177) l6947.length C6949) 55 (by kernel_rfl) (by kernel_rfl) (by kernel_rfl) (by kernel_rfl)) ?_
              have hC : Core B [Ass.own 3 (Kd.int .i64) A6944 C6945 l6943] [] _ := ⟨_, _, hS.re [3] [] rfl sub_self⟩
              refine ⟨hC, ?_⟩
              refine ED.at' #[true, true, true, true, true, true, true, true, true, true, true, false, true, true, true, false, false, false] (by kernel_rfl) ?_
              refine ED.one 11 3 #[true, true, true, true, true, true, true, true, true, true, true, true, true, true, true, false, false, false] (by kernel_rfl) (by kernel_rfl) (by kernel_rfl) (EO.Y (YO.loadHole hS 4 ad7177 (j := a6951) rfl h7175 87 63 (by kernel_rfl) (by kernel_rfl) (by kernel_rfl) (by kernel_rfl)) ?_)
              have hC : Core B [Ass.own 3 (Kd.int .i64) A6944 C6945 l6943] [] _ := ⟨_, _, hS.re [3] [] rfl sub_self⟩
              refine ⟨hC, ?_⟩
              refine ED.one 15 2 #[true, true, true, true, true, true, true, true, true, true, true, true, true, true, true, true, false, false] (by kernel_rfl) (by kernel_rfl) (by kernel_rfl) (EO.append hS 87 87 75 32 1 kS75 A7178 C7179 (l6947.getD a6951.toNat []) rfl (some ⟨g7261, 0, none⟩) 1 l7184 (Rd.own 0 75 rfl) l7186 hl7186 (fun A7264 C7265 => Ass.own 75 kS75 (some ⟨g7261, 0, none⟩) 1 l7184 :: Ass.own 75 kS75 A7264 C7265 l7186 :: Ass.box 83 g6942 [.slice A6944 l6943.length C6945, .slice (some ad7177) l6947.length C6949] :: Ass.own 3 (Kd.int .i64) A6944 C6945 l6943 :: Ass.holed 87 75 kS75 (some ad7177) C6949 l6947 a6951.toNat (A7178, (l6947.getD a6951.toNat []).length, C7179) :: os) 67 (by kernel_rfl) (by kernel_rfl) (by kernel_rfl) (by kernel_rfl) h7185 (fun _ _ => rfl) ?_)
              intro A7264 C7265 w hS
              have hC : Core B [Ass.own 3 (Kd.int .i64) A6944 C6945 l6943] [] _ := ⟨_, _, hS.re [3] [] rfl sub_self⟩
              refine ⟨hC, ?_⟩
              refine ED.Y hN hF hC 16 1 #[true, true, true, true, true, true, true, true, true, true, true, true, true, true, true, true, true, false] (by kernel_rfl) (by kernel_rfl) rfl (fun _ _ _ hS => YO.idx 80 1 ad7177 l6947.length C6949 .i64 a6951 68 (by kernel_rfl) (by kernel_rfl) (by kernel_rfl) (by kernel_rfl) h7175 h7176) ?_
              refine ED.one 17 0 #[true, true, true, true, true, true, true, true, true, true, true, true, true, true, true, true, true, true] (by kernel_rfl) (by kernel_rfl) (by kernel_rfl) (EO.closeEl hS 1 3 ad7177 a6951 rfl rfl h7175 l7189 hl7189 (Ass.own 75 kS75 (some ⟨g7261, 0, none⟩) 1 l7184 :: Ass.box 83 g6942 [.slice A6944 l6943.length C6945, .slice (some ad7177) l6947.length C6949] :: Ass.own 3 (Kd.int .i64) A6944 C6945 l6943 :: Ass.deep 87 75 kS75 (some ad7177) C6949 l7189 :: os) 87 (by kernel_rfl) (by kernel_rfl) (by kernel_rfl) (by kernel_rfl) rfl ?_)
              intro w hS
              have hS : St B w (Ass.own 75 kS75 (some ⟨g7261, 0, none⟩) 1 l7184 :: Ass.box 83 g6942 [.slice A6944 l6943.length C6945, .slice (some ad7177) l7189.length C6949] :: Ass.own 3 (Kd.int .i64) A6944 C6945 l6943 :: Ass.deep 87 75 kS75 (some ad7177) C6949 l7189 :: os) (rs) := by simpa only [hl7189, List.length_set] using hS
              have hC : Core B [Ass.own 3 (Kd.int .i64) A6944 C6945 l6943] [] _ := ⟨_, _, hS.re [2] [] rfl sub_self⟩
              refine ⟨hC, ?_⟩
              refine ED.keep [8, 54, 55, 56, 59, 60, 61, 62, 65, 66, 68] [(8, .int .i32 t7180), (54, .pointer (some ⟨g6942, 1, none⟩)), (55, .slice (some ad7177) l6947.length C6949), (56, .int .i64 a6951), (59, .pointer (some ⟨g6942, 1, none⟩)), (60, .slice (some ad7177) l6947.length C6949), (61, .int .i64 a6951), (62, .pointer (some ((ad7177.add (a6951.toNat * 1)).add 0))), (65, .agg #[.int .i64 a6952, .int .i64 0, .int .i32 0, .int .i64 0]), (66, .slice (some ⟨g7261, 0, none⟩) l7184.length 1), (68, .pointer (some ((ad7177.add (a6951.toNat * 1)).add 0)))] (by kernel_rfl) ?_
              refine ED.as' [(8, .int .i32 t7180), (54, .pointer (some ⟨g6942, 1, none⟩)), (55, .slice (some ad7177) l7189.length C6949), (56, .int .i64 a6951), (59, .pointer (some ⟨g6942, 1, none⟩)), (60, .slice (some ad7177) l7189.length C6949), (61, .int .i64 a6951), (62, .pointer (some ((ad7177.add (a6951.toNat * 1)).add 0))), (65, .agg #[.int .i64 a6952, .int .i64 0, .int .i32 0, .int .i64 0]), (66, .slice (some ⟨g7261, 0, none⟩) l7184.length 1), (68, .pointer (some ((ad7177.add (a6951.toNat * 1)).add 0)))] (by simp only [hl7189, List.length_set]) ?_
              refine ED.done (by kernel_rfl) ?_
              refine EQ.to ?_
              refine EQ.keep [8] [(8, .int .i32 t7180)] (by kernel_rfl) ?_
              exact fun a ha => ⟨(some ⟨g7261, 0, none⟩), 1, ha, (hS.re [3, 3, 3, 3] [] rfl (sub_self))⟩
            · refine EO.Y (YO.loadHole hS 4 ad7177 (j := a6951) rfl h7175 87 63 (by kernel_rfl) (by kernel_rfl) (by kernel_rfl) (by kernel_rfl)) ?_
              have hC : Core B [Ass.own 3 (Kd.int .i64) A6944 C6945 l6943] [] _ := ⟨_, _, hS.re [3] [] rfl sub_self⟩
              refine ⟨hC, ?_⟩
              refine ED.at' #[true, true, true, false, true, true, true, true, true, true, true, true, true, true, true, false, false, false] (by kernel_rfl) ?_
              refine ED.two 3 15 3 (by kernel_rfl) (by kernel_rfl) ?_ ?_
              · refine EO.Y (YO.loadBox hS 2 rfl 80 1 1 (.slice (some ad7177) l6947.length C6949) 55 (by kernel_rfl) (by kernel_rfl) (by kernel_rfl) (by kernel_rfl)) ?_
                have hC : Core B [Ass.own 3 (Kd.int .i64) A6944 C6945 l6943] [] _ := ⟨_, _, hS.re [3] [] rfl sub_self⟩
                refine ⟨hC, ?_⟩
                refine ED.at' #[true, true, true, true, true, true, true, true, true, true, true, true, true, true, true, false, false, false] (by kernel_rfl) ?_
                refine ED.one 15 2 #[true, true, true, true, true, true, true, true, true, true, true, true, true, true, true, true, false, false] (by kernel_rfl) (by kernel_rfl) (by kernel_rfl) (EO.append hS 87 87 75 32 1 kS75 A7178 C7179 (l6947.getD a6951.toNat []) rfl (some ⟨g7261, 0, none⟩) 1 l7184 (Rd.own 0 75 rfl) l7186 hl7186 (fun A7266 C7267 => Ass.own 75 kS75 (some ⟨g7261, 0, none⟩) 1 l7184 :: Ass.own 75 kS75 A7266 C7267 l7186 :: Ass.box 83 g6942 [.slice A6944 l6943.length C6945, .slice (some ad7177) l6947.length C6949] :: Ass.own 3 (Kd.int .i64) A6944 C6945 l6943 :: Ass.holed 87 75 kS75 (some ad7177) C6949 l6947 a6951.toNat (A7178, (l6947.getD a6951.toNat []).length, C7179) :: os) 67 (by kernel_rfl) (by kernel_rfl) (by kernel_rfl) (by kernel_rfl) h7185 (fun _ _ => rfl) ?_)
                intro A7266 C7267 w hS
                have hC : Core B [Ass.own 3 (Kd.int .i64) A6944 C6945 l6943] [] _ := ⟨_, _, hS.re [3] [] rfl sub_self⟩
                refine ⟨hC, ?_⟩
                refine ED.Y hN hF hC 16 1 #[true, true, true, true, true, true, true, true, true, true, true, true, true, true, true, true, true, false] (by kernel_rfl) (by kernel_rfl) rfl (fun _ _ _ hS => YO.idx 80 1 ad7177 l6947.length C6949 .i64 a6951 68 (by kernel_rfl) (by kernel_rfl) (by kernel_rfl) (by kernel_rfl) h7175 h7176) ?_
                refine ED.one 17 0 #[true, true, true, true, true, true, true, true, true, true, true, true, true, true, true, true, true, true] (by kernel_rfl) (by kernel_rfl) (by kernel_rfl) (EO.closeEl hS 1 3 ad7177 a6951 rfl rfl h7175 l7189 hl7189 (Ass.own 75 kS75 (some ⟨g7261, 0, none⟩) 1 l7184 :: Ass.box 83 g6942 [.slice A6944 l6943.length C6945, .slice (some ad7177) l6947.length C6949] :: Ass.own 3 (Kd.int .i64) A6944 C6945 l6943 :: Ass.deep 87 75 kS75 (some ad7177) C6949 l7189 :: os) 87 (by kernel_rfl) (by kernel_rfl) (by kernel_rfl) (by kernel_rfl) rfl ?_)
                intro w hS
                have hS : St B w (Ass.own 75 kS75 (some ⟨g7261, 0, none⟩) 1 l7184 :: Ass.box 83 g6942 [.slice A6944 l6943.length C6945, .slice (some ad7177) l7189.length C6949] :: Ass.own 3 (Kd.int .i64) A6944 C6945 l6943 :: Ass.deep 87 75 kS75 (some ad7177) C6949 l7189 :: os) (rs) := by simpa only [hl7189, List.length_set] using hS
                have hC : Core B [Ass.own 3 (Kd.int .i64) A6944 C6945 l6943] [] _ := ⟨_, _, hS.re [2] [] rfl sub_self⟩
                refine ⟨hC, ?_⟩
                refine ED.keep [8, 54, 55, 56, 59, 60, 61, 62, 65, 66, 68] [(8, .int .i32 t7180), (54, .pointer (some ⟨g6942, 1, none⟩)), (55, .slice (some ad7177) l6947.length C6949), (56, .int .i64 a6951), (59, .pointer (some ⟨g6942, 1, none⟩)), (60, .slice (some ad7177) l6947.length C6949), (61, .int .i64 a6951), (62, .pointer (some ((ad7177.add (a6951.toNat * 1)).add 0))), (65, .agg #[.int .i64 a6952, .int .i64 0, .int .i32 0, .int .i64 0]), (66, .slice (some ⟨g7261, 0, none⟩) l7184.length 1), (68, .pointer (some ((ad7177.add (a6951.toNat * 1)).add 0)))] (by kernel_rfl) ?_
                refine ED.as' [(8, .int .i32 t7180), (54, .pointer (some ⟨g6942, 1, none⟩)), (55, .slice (some ad7177) l7189.length C6949), (56, .int .i64 a6951), (59, .pointer (some ⟨g6942, 1, none⟩)), (60, .slice (some ad7177) l7189.length C6949), (61, .int .i64 a6951), (62, .pointer (some ((ad7177.add (a6951.toNat * 1)).add 0))), (65, .agg #[.int .i64 a6952, .int .i64 0, .int .i32 0, .int .i64 0]), (66, .slice (some ⟨g7261, 0, none⟩) l7184.length 1), (68, .pointer (some ((ad7177.add (a6951.toNat * 1)).add 0)))] (by simp only [hl7189, List.length_set]) ?_
                refine ED.done (by kernel_rfl) ?_
                refine EQ.to ?_
                refine EQ.keep [8] [(8, .int .i32 t7180)] (by kernel_rfl) ?_
                exact fun a ha => ⟨(some ⟨g7261, 0, none⟩), 1, ha, (hS.re [3, 3, 3, 3] [] rfl (sub_self))⟩
              · refine EO.append hS 87 87 75 32 1 kS75 A7178 C7179 (l6947.getD a6951.toNat []) rfl (some ⟨g7261, 0, none⟩) 1 l7184 (Rd.own 0 75 rfl) l7186 hl7186 (fun A7268 C7269 => Ass.own 75 kS75 (some ⟨g7261, 0, none⟩) 1 l7184 :: Ass.own 75 kS75 A7268 C7269 l7186 :: Ass.box 83 g6942 [.slice A6944 l6943.length C6945, .slice (some ad7177) l6947.length C6949] :: Ass.own 3 (Kd.int .i64) A6944 C6945 l6943 :: Ass.holed 87 75 kS75 (some ad7177) C6949 l6947 a6951.toNat (A7178, (l6947.getD a6951.toNat []).length, C7179) :: os) 67 (by kernel_rfl) (by kernel_rfl) (by kernel_rfl) (by kernel_rfl) h7185 (fun _ _ => rfl) ?_
                intro A7268 C7269 w hS
                have hC : Core B [Ass.own 3 (Kd.int .i64) A6944 C6945 l6943] [] _ := ⟨_, _, hS.re [3] [] rfl sub_self⟩
                refine ⟨hC, ?_⟩
                refine ED.at' #[true, true, true, false, true, true, true, true, true, true, true, true, true, true, true, true, false, false] (by kernel_rfl) ?_
                refine ED.one 3 2 #[true, true, true, true, true, true, true, true, true, true, true, true, true, true, true, true, false, false] (by kernel_rfl) (by kernel_rfl) (by kernel_rfl) (EO.Y (YO.loadBox hS 2 rfl 80 1 1 (.slice (some ad7177) l6947.length C6949) 55 (by kernel_rfl) (by kernel_rfl) (by kernel_rfl) (by kernel_rfl)) ?_)
                have hC : Core B [Ass.own 3 (Kd.int .i64) A6944 C6945 l6943] [] _ := ⟨_, _, hS.re [3] [] rfl sub_self⟩
                refine ⟨hC, ?_⟩
                refine ED.Y hN hF hC 16 1 #[true, true, true, true, true, true, true, true, true, true, true, true, true, true, true, true, true, false] (by kernel_rfl) (by kernel_rfl) rfl (fun _ _ _ hS => YO.idx 80 1 ad7177 l6947.length C6949 .i64 a6951 68 (by kernel_rfl) (by kernel_rfl) (by kernel_rfl) (by kernel_rfl) h7175 h7176) ?_
                refine ED.one 17 0 #[true, true, true, true, true, true, true, true, true, true, true, true, true, true, true, true, true, true] (by kernel_rfl) (by kernel_rfl) (by kernel_rfl) (EO.closeEl hS 1 3 ad7177 a6951 rfl rfl h7175 l7189 hl7189 (Ass.own 75 kS75 (some ⟨g7261, 0, none⟩) 1 l7184 :: Ass.box 83 g6942 [.slice A6944 l6943.length C6945, .slice (some ad7177) l6947.length C6949] :: Ass.own 3 (Kd.int .i64) A6944 C6945 l6943 :: Ass.deep 87 75 kS75 (some ad7177) C6949 l7189 :: os) 87 (by kernel_rfl) (by kernel_rfl) (by kernel_rfl) (by kernel_rfl) rfl ?_)
                intro w hS
                have hS : St B w (Ass.own 75 kS75 (some ⟨g7261, 0, none⟩) 1 l7184 :: Ass.box 83 g6942 [.slice A6944 l6943.length C6945, .slice (some ad7177) l7189.length C6949] :: Ass.own 3 (Kd.int .i64) A6944 C6945 l6943 :: Ass.deep 87 75 kS75 (some ad7177) C6949 l7189 :: os) (rs) := by simpa only [hl7189, List.length_set] using hS
                have hC : Core B [Ass.own 3 (Kd.int .i64) A6944 C6945 l6943] [] _ := ⟨_, _, hS.re [2] [] rfl sub_self⟩
                refine ⟨hC, ?_⟩
                refine ED.keep [8, 54, 55, 56, 59, 60, 61, 62, 65, 66, 68] [(8, .int .i32 t7180), (54, .pointer (some ⟨g6942, 1, none⟩)), (55, .slice (some ad7177) l6947.length C6949), (56, .int .i64 a6951), (59, .pointer (some ⟨g6942, 1, none⟩)), (60, .slice (some ad7177) l6947.length C6949), (61, .int .i64 a6951), (62, .pointer (some ((ad7177.add (a6951.toNat * 1)).add 0))), (65, .agg #[.int .i64 a6952, .int .i64 0, .int .i32 0, .int .i64 0]), (66, .slice (some ⟨g7261, 0, none⟩) l7184.length 1), (68, .pointer (some ((ad7177.add (a6951.toNat * 1)).add 0)))] (by kernel_rfl) ?_
                refine ED.as' [(8, .int .i32 t7180), (54, .pointer (some ⟨g6942, 1, none⟩)), (55, .slice (some ad7177) l7189.length C6949), (56, .int .i64 a6951), (59, .pointer (some ⟨g6942, 1, none⟩)), (60, .slice (some ad7177) l7189.length C6949), (61, .int .i64 a6951), (62, .pointer (some ((ad7177.add (a6951.toNat * 1)).add 0))), (65, .agg #[.int .i64 a6952, .int .i64 0, .int .i32 0, .int .i64 0]), (66, .slice (some ⟨g7261, 0, none⟩) l7184.length 1), (68, .pointer (some ((ad7177.add (a6951.toNat * 1)).add 0)))] (by simp only [hl7189, List.length_set]) ?_
                refine ED.done (by kernel_rfl) ?_
                refine EQ.to ?_
                refine EQ.keep [8] [(8, .int .i32 t7180)] (by kernel_rfl) ?_
                exact fun a ha => ⟨(some ⟨g7261, 0, none⟩), 1, ha, (hS.re [3, 3, 3, 3] [] rfl (sub_self))⟩
      · obtain ⟨A7229, C7230, ha, hS⟩ := hI
        refine EQ.at ?_ a ha
        clear ha a
        refine EQ.code ?_
        refine EW.seq (x := Cd47.r.r.r.r.l) (y := Cd47.r.r.r.r.r) (by kernel_rfl) ?_
        refine EW.region (id := 5) (ops := Cd47.r.r.r.r.l.ops) (by kernel_rfl) ?_
        refine EL.quick 3 [6, 7] [(6, .int .i32 t7180), (7, .bool (true))] (by kernel_rfl) ?_
        refine EL.done (by kernel_rfl) ?_
        refine EQ.code ?_
        refine EW.ret (by kernel_rfl) ?_
        simp only [Option.some.injEq, Prod.mk.injEq] at H
        obtain ⟨rfl, rfl, rfl⟩ := H
        exact EQ.leave (.tuple #[.int .i32 t7180, .bool (true)]) (by kernel_rfl) ⟨_, rfl, (some ad7177), C6949, rfl, (hS.re [3, 3, 3] [3] rfl (sub_self))⟩

/-! ### confidant/confidantref9.Label: function 75 -/
def confidantref9_Label.f (K : Nat) (a7337 : Int) : Option Int := if a7337 < 0 then (some (-1)) else (some (IntKind.i64.wrap (IntKind.i32.wrap (Int.tdiv a7337 65536))))
set_option maxRecDepth 100000 in
theorem confidantref9_Label.calls {K : Nat} {a7337 : Int} {x7340 : Int} {B w : World} {os : List Ass} {rs : List Ro} (H : confidantref9_Label.f K a7337 = some x7340) (hS : St B w (os) (rs)) :
    Calls Try.prog 75 [.int .i32 a7337].toArray w (fun en w' => ∃ v, en = .returned v ∧ v = .int .i64 x7340 ∧ St B w' (os) (rs)) := by
  unfold confidantref9_Label.f at H
  refine calls_of_EW (args := [.int .i32 a7337]) (c := Cd75) 8 Try.func75 (by kernel_rfl) (by kernel_rfl) (by kernel_rfl) ?_
  refine EW.seq (x := Cd75.l) (y := Cd75.r) (by kernel_rfl) ?_
  refine EW.region (id := 0) (ops := Cd75.l.ops) (by kernel_rfl) ?_
  refine EL.quick 1 [0] [(0, .int .i32 a7337)] (by kernel_rfl) ?_
  refine EL.done (by kernel_rfl) ?_
  refine EQ.code ?_
  refine EW.seq (x := Cd75.r.l) (y := Cd75.r.r) (by kernel_rfl) ?_
  refine EW.seq (x := Cd75.r.l.l) (y := Cd75.r.l.r) (by kernel_rfl) ?_
  refine EW.region (id := 1) (ops := Cd75.r.l.l.ops) (by kernel_rfl) ?_
  refine EL.quick 2 [0, 4] [(0, .int .i32 a7337), (4, .bool (decide (a7337 < 0)))] (by kernel_rfl) ?_
  refine EL.done (by kernel_rfl) ?_
  refine EQ.code ?_
  refine EW.condP (o := (.tmp 4)) (x := Cd75.r.l.r.l) (y := Cd75.r.l.r.r) (a7337 < 0) (by kernel_rfl) (by kernel_rfl) (fun h7342 => ?_) (fun h7342 => ?_)
  · rw [if_pos h7342] at H
    refine EW.seq (x := Cd75.r.l.r.l.l) (y := Cd75.r.l.r.l.r) (by kernel_rfl) ?_
    refine EW.region (id := 2) (ops := Cd75.r.l.r.l.l.ops) (by kernel_rfl) ?_
    refine EL.quick 1 [2] [(2, .int .i64 (-1))] (by kernel_rfl) ?_
    refine EL.done (by kernel_rfl) ?_
    refine EQ.code ?_
    refine EW.ret (by kernel_rfl) ?_
    refine EQ.ret ?_
    obtain rfl := Option.some.inj H
    exact EQ.leave (.int .i64 (-1)) (by kernel_rfl) ⟨_, rfl, rfl, (hS.re [] [] rfl (sub_self))⟩
  · rw [if_neg h7342] at H
    refine EW.skip (by kernel_rfl) ?_
    refine EQ.code ?_
    refine EW.seq (x := Cd75.r.r.l) (y := Cd75.r.r.r) (by kernel_rfl) ?_
    refine EW.region (id := 3) (ops := Cd75.r.r.l.ops) (by kernel_rfl) ?_
    refine EL.quick 4 [2] [(2, .int .i64 (IntKind.i64.wrap (IntKind.i32.wrap (Int.tdiv a7337 65536))))] (by kernel_rfl) ?_
    refine EL.done (by kernel_rfl) ?_
    refine EQ.code ?_
    refine EW.ret (by kernel_rfl) ?_
    obtain rfl := Option.some.inj H
    exact EQ.leave (.int .i64 (IntKind.i64.wrap (IntKind.i32.wrap (Int.tdiv a7337 65536)))) (by kernel_rfl) ⟨_, rfl, rfl, (hS.re [] [] rfl (sub_self))⟩

/-! ### confidant/confidantref9.Valid: function 73 -/
def confidantref9_Valid.f (K : Nat) (a7334 : Int) (a7335 : Int) : Option Bool := if a7334 ≥ 0 then (b1 (confidantref9_Label.f K a7334) fun (t7347 : Int) => (some (decide (t7347 < (mn a7335 16))))) else (some false)
set_option maxRecDepth 100000 in
theorem confidantref9_Valid.calls {K : Nat} {a7334 : Int} {a7335 : Int} {x7345 : Bool} {B w : World} {os : List Ass} {rs : List Ro} (H : confidantref9_Valid.f K a7334 a7335 = some x7345) (hS : St B w (os) (rs)) :
    Calls Try.prog 73 [.int .i32 a7334, .int .i64 a7335].toArray w (fun en w' => ∃ v, en = .returned v ∧ v = .bool (x7345) ∧ St B w' (os) (rs)) := by
  unfold confidantref9_Valid.f at H
  refine calls_of_EW (args := [.int .i32 a7334, .int .i64 a7335]) (c := Cd73) 14 Try.func73 (by kernel_rfl) (by kernel_rfl) (by kernel_rfl) ?_
  refine EW.seq (x := Cd73.l) (y := Cd73.r) (by kernel_rfl) ?_
  refine EW.region (id := 0) (ops := Cd73.l.ops) (by kernel_rfl) ?_
  refine EL.quick 1 [0, 1] [(0, .int .i32 a7334), (1, .int .i64 a7335)] (by kernel_rfl) ?_
  refine EL.done (by kernel_rfl) ?_
  refine EQ.code ?_
  refine EW.seq (x := Cd73.r.l) (y := Cd73.r.r) (by kernel_rfl) ?_
  refine EW.region (id := 1) (ops := Cd73.r.l.ops) (by kernel_rfl) ?_
  refine EL.quick 3 [0, 1, 7] [(0, .int .i32 a7334), (1, .int .i64 a7335), (7, .bool (decide (a7334 ≥ 0)))] (by kernel_rfl) ?_
  by_cases h7346 : a7334 ≥ 0
  · rw [if_pos h7346] at H
    refine EL.keep [0, 1, 7] [(0, .int .i32 a7334), (1, .int .i64 a7335), (7, .bool (decide (a7334 ≥ 0)))] (by kernel_rfl) ?_
    refine EL.as' [(0, .int .i32 a7334), (1, .int .i64 a7335), (7, .bool (true))] (by simp only [dec_t h7346, Bool.not_true, Bool.not_false]) ?_
    refine EL.quick 1 [1, 7, 8] [(1, .int .i64 a7335), (7, .bool (true)), (8, .int .i32 a7334)] (by kernel_rfl) ?_
    obtain ⟨t7347, hc7348, H⟩ := b1_out H
    refine EL.of (EO.callD 75 [.int .i32 a7334] _ 9 (by kernel_rfl) (by kernel_rfl) (by kernel_rfl) (confidantref9_Label.calls hc7348 hS) ?_)
    rintro v w ⟨rfl, hS⟩
    refine EL.quick 5 [4] [(4, .bool (decide (t7347 < (mn a7335 16))))] (by kernel_rfl) ?_
    refine EL.done (by kernel_rfl) ?_
    refine EQ.code ?_
    refine EW.ret (by kernel_rfl) ?_
    obtain rfl := Option.some.inj H
    exact EQ.leave (.bool (decide (t7347 < (mn a7335 16)))) (by kernel_rfl) ⟨_, rfl, rfl, (hS.re [] [] rfl (sub_self))⟩
  · rw [if_neg h7346] at H
    refine EL.keep [0, 1, 7] [(0, .int .i32 a7334), (1, .int .i64 a7335), (7, .bool (decide (a7334 ≥ 0)))] (by kernel_rfl) ?_
    refine EL.as' [(0, .int .i32 a7334), (1, .int .i64 a7335), (7, .bool (false))] (by simp only [dec_f h7346, Bool.not_true, Bool.not_false]) ?_
    refine EL.quick 7 [4] [(4, .bool (false))] (by kernel_rfl) ?_
    refine EL.done (by kernel_rfl) ?_
    refine EQ.code ?_
    refine EW.ret (by kernel_rfl) ?_
    obtain rfl := Option.some.inj H
    exact EQ.leave (.bool (false)) (by kernel_rfl) ⟨_, rfl, rfl, (hS.re [] [] rfl (sub_self))⟩

/-! ### confidant/confidantref9.Number: function 74 -/
def confidantref9_Number.f (K : Nat) (a7352 : Int) : Option Int := if a7352 < 0 then (some (-1)) else (some (IntKind.i64.wrap (Int.tmod a7352 65536)))
set_option maxRecDepth 100000 in
theorem confidantref9_Number.calls {K : Nat} {a7352 : Int} {x7355 : Int} {B w : World} {os : List Ass} {rs : List Ro} (H : confidantref9_Number.f K a7352 = some x7355) (hS : St B w (os) (rs)) :
    Calls Try.prog 74 [.int .i32 a7352].toArray w (fun en w' => ∃ v, en = .returned v ∧ v = .int .i64 x7355 ∧ St B w' (os) (rs)) := by
  unfold confidantref9_Number.f at H
  refine calls_of_EW (args := [.int .i32 a7352]) (c := Cd74) 8 Try.func74 (by kernel_rfl) (by kernel_rfl) (by kernel_rfl) ?_
  refine EW.seq (x := Cd74.l) (y := Cd74.r) (by kernel_rfl) ?_
  refine EW.region (id := 0) (ops := Cd74.l.ops) (by kernel_rfl) ?_
  refine EL.quick 1 [0] [(0, .int .i32 a7352)] (by kernel_rfl) ?_
  refine EL.done (by kernel_rfl) ?_
  refine EQ.code ?_
  refine EW.seq (x := Cd74.r.l) (y := Cd74.r.r) (by kernel_rfl) ?_
  refine EW.seq (x := Cd74.r.l.l) (y := Cd74.r.l.r) (by kernel_rfl) ?_
  refine EW.region (id := 1) (ops := Cd74.r.l.l.ops) (by kernel_rfl) ?_
  refine EL.quick 2 [0, 4] [(0, .int .i32 a7352), (4, .bool (decide (a7352 < 0)))] (by kernel_rfl) ?_
  refine EL.done (by kernel_rfl) ?_
  refine EQ.code ?_
  refine EW.condP (o := (.tmp 4)) (x := Cd74.r.l.r.l) (y := Cd74.r.l.r.r) (a7352 < 0) (by kernel_rfl) (by kernel_rfl) (fun h7357 => ?_) (fun h7357 => ?_)
  · rw [if_pos h7357] at H
    refine EW.seq (x := Cd74.r.l.r.l.l) (y := Cd74.r.l.r.l.r) (by kernel_rfl) ?_
    refine EW.region (id := 2) (ops := Cd74.r.l.r.l.l.ops) (by kernel_rfl) ?_
    refine EL.quick 1 [2] [(2, .int .i64 (-1))] (by kernel_rfl) ?_
    refine EL.done (by kernel_rfl) ?_
    refine EQ.code ?_
    refine EW.ret (by kernel_rfl) ?_
    refine EQ.ret ?_
    obtain rfl := Option.some.inj H
    exact EQ.leave (.int .i64 (-1)) (by kernel_rfl) ⟨_, rfl, rfl, (hS.re [] [] rfl (sub_self))⟩
  · rw [if_neg h7357] at H
    refine EW.skip (by kernel_rfl) ?_
    refine EQ.code ?_
    refine EW.seq (x := Cd74.r.r.l) (y := Cd74.r.r.r) (by kernel_rfl) ?_
    refine EW.region (id := 3) (ops := Cd74.r.r.l.ops) (by kernel_rfl) ?_
    refine EL.quick 4 [2] [(2, .int .i64 (IntKind.i64.wrap (Int.tmod a7352 65536)))] (by kernel_rfl) ?_
    refine EL.done (by kernel_rfl) ?_
    refine EQ.code ?_
    refine EW.ret (by kernel_rfl) ?_
    obtain rfl := Option.some.inj H
    exact EQ.leave (.int .i64 (IntKind.i64.wrap (Int.tmod a7352 65536))) (by kernel_rfl) ⟨_, rfl, rfl, (hS.re [] [] rfl (sub_self))⟩

/-! ### (*confidant/confidantref12.Futures).Get: function 53 -/
def confidantref12_Futures_Get.f (K : Nat) (l7323 : List Int) (l7327 : List (List S75)) (a7331 : Int) : Option (S75 × Bool) := lt (fun (x7516 : Bool) => (if x7516 = true then (some ((⟨0, 0, 0, 0⟩ : S75), false)) else (b1 (confidantref9_Label.f K a7331) fun (t7535 : Int) => (if 0 ≤ t7535 then (if t7535 < (l7327.length : Int) then (b1 (confidantref9_Number.f K a7331) fun (t7542 : Int) => (if 0 ≤ t7542 then (if t7542 < ((l7327.getD t7535.toNat []).length : Int) then (some ((⟨((l7327.getD t7535.toNat []).getD t7542.toNat zS75).f0, ((l7327.getD t7535.toNat []).getD t7542.toNat zS75).f1, ((l7327.getD t7535.toNat []).getD t7542.toNat zS75).f2, ((l7327.getD t7535.toNat []).getD t7542.toNat zS75).f3⟩ : S75), true)) else none) else none)) else none) else none)))) fun j7517 => (b1 (confidantref9_Valid.f K a7331 (l7327.length : Int)) fun (t7518 : Bool) => (if t7518 = true then (b1 (confidantref9_Number.f K a7331) fun (t7521 : Int) => (b1 (confidantref9_Label.f K a7331) fun (t7523 : Int) => (if 0 ≤ t7523 then (if t7523 < (l7327.length : Int) then (j7517 (decide (t7521 ≥ ((l7327.getD t7523.toNat []).length : Int)))) else none) else none))) else (j7517 true)))
set_option maxRecDepth 100000 in
theorem confidantref12_Futures_Get.calls {K : Nat} {l7323 : List Int} {l7327 : List (List S75)} {a7331 : Int} {g7322 : Nat} {A7324 : Option Addr} {C7325 : Nat} {A7328 : Option Addr} {C7329 : Nat} {x7447 : S75} {x7448 : Bool} {B w : World} {os : List Ass} {rs : List Ro} (H : confidantref12_Futures_Get.f K l7323 l7327 a7331 = some (x7447, x7448)) (hS : St B w (Ass.box 83 g7322 [.slice A7324 l7323.length C7325, .slice A7328 l7327.length C7329] :: Ass.own 3 (Kd.int .i64) A7324 C7325 l7323 :: Ass.deep 87 75 kS75 A7328 C7329 l7327 :: os) (rs)) :
    Calls Try.prog 53 [.pointer (some ⟨g7322, 0, none⟩), .int .i32 a7331].toArray w (fun en w' => ∃ v, en = .returned v ∧ v = .tuple #[.agg #[.int .i64 x7447.f0, .int .i64 x7447.f1, .int .i32 x7447.f2, .int .i64 x7447.f3], .bool (x7448)] ∧ St B w' (Ass.box 83 g7322 [.slice A7324 l7323.length C7325, .slice A7328 l7327.length C7329] :: Ass.own 3 (Kd.int .i64) A7324 C7325 l7323 :: Ass.deep 87 75 kS75 A7328 C7329 l7327 :: os) (rs)) := by
  unfold confidantref12_Futures_Get.f at H
  refine calls_of_EW (args := [.pointer (some ⟨g7322, 0, none⟩), .int .i32 a7331]) (c := Cd53) 41 Try.func53 (by kernel_rfl) (by kernel_rfl) (by kernel_rfl) ?_
  refine EW.seq (x := Cd53.l) (y := Cd53.r) (by kernel_rfl) ?_
  refine EW.region (id := 0) (ops := Cd53.l.ops) (by kernel_rfl) ?_
  refine EL.of (EO.alloc hS 75 (.agg #[.int .i64 0, .int .i64 0, .int .i32 0, .int .i64 0]) [.int .i64 0, .int .i64 0, .int .i32 0, .int .i64 0] 4 (by kernel_rfl) (by kernel_rfl) (by kernel_rfl) (by kernel_rfl) (by first | rfl | kernel_rfl) ?_)
  intro g7450 w hS
  refine EL.quick 1 [0, 1, 4] [(0, .pointer (some ⟨g7322, 0, none⟩)), (1, .int .i32 a7331), (4, .pointer (some ⟨g7450, 0, none⟩))] (by kernel_rfl) ?_
  refine EL.done (by kernel_rfl) ?_
  refine EQ.code ?_
  refine EW.seq (x := Cd53.r.l) (y := Cd53.r.r) (by kernel_rfl) ?_
  obtain ⟨j7517, hj7517, H⟩ := lt_out H
  refine EW.cut (x := Cd53.r.l.l) (y := Cd53.r.l.r) (fun a w => ∃ x7516 : Bool, Sat 41 [(0, .pointer (some ⟨g7322, 0, none⟩)), (1, .int .i32 a7331), (4, .pointer (some ⟨g7450, 0, none⟩)), (27, .bool (x7516))] a ∧ St B w (Ass.box 75 g7450 [.int .i64 0, .int .i64 0, .int .i32 0, .int .i64 0] :: Ass.box 83 g7322 [.slice A7324 l7323.length C7325, .slice A7328 l7327.length C7329] :: Ass.own 3 (Kd.int .i64) A7324 C7325 l7323 :: Ass.deep 87 75 kS75 A7328 C7329 l7327 :: os) (rs) ∧ j7517 x7516 = some (x7447, x7448)) (by kernel_rfl) ?_ (fun a w hI => ?_)
  · obtain ⟨t7518, hc7519, H⟩ := b1_out H
    by_cases h7520 : t7518 = true
    · rw [if_pos h7520] at H
      obtain ⟨t7521, hc7522, H⟩ := b1_out H
      obtain ⟨t7523, hc7524, H⟩ := b1_out H
      obtain ⟨h7525, H⟩ := ite_in H
      obtain ⟨h7526, H⟩ := ite_in H
      obtain ⟨ad7527, rfl⟩ := St.deep_some hS 3 rfl h7525 h7526
      have hS := hS.drew
      refine EW.draw (B := B) (id := 1) (ops := Cd53.r.l.l.ops) [Ass.box 75 g7450 [.int .i64 0, .int .i64 0, .int .i32 0, .int .i64 0], Ass.box 83 g7322 [.slice A7324 l7323.length C7325, .slice (some ad7527) l7327.length C7329], Ass.own 3 (Kd.int .i64) A7324 C7325 l7323] [] (by kernel_rfl) (by kernel_rfl) ?_
      have hN : Region.noSelect Cd53.r.l.l.ops = true := (by kernel_rfl)
      have hF : freeAll Cd53.r.l.l.ops = true := (by kernel_rfl)
      have hC : Core B [Ass.box 75 g7450 [.int .i64 0, .int .i64 0, .int .i32 0, .int .i64 0], Ass.box 83 g7322 [.slice A7324 l7323.length C7325, .slice (some ad7527) l7327.length C7329], Ass.own 3 (Kd.int .i64) A7324 C7325 l7323] [] _ := ⟨_, _, hS⟩
      refine ED.quick hN hF hC [0, 1, 2, 3] [0, 1, 4, 6, 9] 18 [(0, .pointer (some ⟨g7322, 0, none⟩)), (1, .int .i32 a7331), (4, .pointer (some ⟨g7450, 0, none⟩)), (6, .int .i32 a7331), (9, .pointer (some ⟨g7322, 1, none⟩))] #[true, true, true, true, false, false, false, false, false, false, false, false, false, false, false, false, false, false, false, false, false, false] (by kernel_rfl) (by kernel_rfl) ?_
      refine ED.Y hN hF hC 4 17 #[true, true, true, true, true, false, false, false, false, false, false, false, false, false, false, false, false, false, false, false, false, false] (by kernel_rfl) (by kernel_rfl) rfl (fun _ _ _ hS => YO.loadBox hS 1 rfl 80 1 1 (.slice (some ad7527) l7327.length C7329) 10 (by kernel_rfl) (by kernel_rfl) (by kernel_rfl) (by kernel_rfl)) ?_
      refine ED.quick hN hF hC [5] [0, 1, 4, 6, 11] 16 [(0, .pointer (some ⟨g7322, 0, none⟩)), (1, .int .i32 a7331), (4, .pointer (some ⟨g7450, 0, none⟩)), (6, .int .i32 a7331), (11, .int .i64 (l7327.length : Int))] #[true, true, true, true, true, true, false, false, false, false, false, false, false, false, false, false, false, false, false, false, false, false] (by kernel_rfl) (by kernel_rfl) ?_
      refine ED.one 6 15 #[true, true, true, true, true, true, true, false, false, false, false, false, false, false, false, false, false, false, false, false, false, false] (by kernel_rfl) (by kernel_rfl) (by kernel_rfl) (EO.callD 73 [.int .i32 a7331, .int .i64 (l7327.length : Int)] _ 12 (by kernel_rfl) (by kernel_rfl) (by kernel_rfl) (confidantref9_Valid.calls hc7519 hS) ?_)
      rintro v w ⟨rfl, hS⟩
      have hC : Core B [Ass.box 75 g7450 [.int .i64 0, .int .i64 0, .int .i32 0, .int .i64 0], Ass.box 83 g7322 [.slice A7324 l7323.length C7325, .slice (some ad7527) l7327.length C7329], Ass.own 3 (Kd.int .i64) A7324 C7325 l7323] [] _ := ⟨_, _, hS⟩
      refine ⟨hC, ?_⟩
      refine ED.quick hN hF hC [7, 8] [0, 1, 4, 14] 13 [(0, .pointer (some ⟨g7322, 0, none⟩)), (1, .int .i32 a7331), (4, .pointer (some ⟨g7450, 0, none⟩)), (14, .bool (!(t7518)))] #[true, true, true, true, true, true, true, true, true, false, false, false, false, false, false, false, false, false, false, false, false, false] (by kernel_rfl) (by kernel_rfl) ?_
      refine ED.keep [0, 1, 4, 14] [(0, .pointer (some ⟨g7322, 0, none⟩)), (1, .int .i32 a7331), (4, .pointer (some ⟨g7450, 0, none⟩)), (14, .bool (!(t7518)))] (by kernel_rfl) ?_
      refine ED.as' [(0, .pointer (some ⟨g7322, 0, none⟩)), (1, .int .i32 a7331), (4, .pointer (some ⟨g7450, 0, none⟩)), (14, .bool (false))] (by simp only [h7520, Bool.not_true, Bool.not_false]) ?_
      refine ED.quick hN hF hC [9, 11, 12, 13, 15] [0, 1, 4, 14, 15, 19, 21] 8 [(0, .pointer (some ⟨g7322, 0, none⟩)), (1, .int .i32 a7331), (4, .pointer (some ⟨g7450, 0, none⟩)), (14, .bool (false)), (15, .int .i32 a7331), (19, .pointer (some ⟨g7322, 1, none⟩)), (21, .int .i32 a7331)] #[true, true, true, true, true, true, true, true, true, true, false, true, true, true, false, true, false, false, false, false, false, false] (by kernel_rfl) (by kernel_rfl) ?_
      refine ED.Y hN hF hC 14 7 #[true, true, true, true, true, true, true, true, true, true, false, true, true, true, true, true, false, false, false, false, false, false] (by kernel_rfl) (by kernel_rfl) rfl (fun _ _ _ hS => YO.loadBox hS 1 rfl 80 1 1 (.slice (some ad7527) l7327.length C7329) 20 (by kernel_rfl) (by kernel_rfl) (by kernel_rfl) (by kernel_rfl)) ?_
      refine ED.one 10 6 #[true, true, true, true, true, true, true, true, true, true, true, true, true, true, true, true, false, false, false, false, false, false] (by kernel_rfl) (by kernel_rfl) (by kernel_rfl) (EO.callD 74 [.int .i32 a7331] _ 16 (by kernel_rfl) (by kernel_rfl) (by kernel_rfl) (confidantref9_Number.calls hc7522 hS) ?_)
      rintro v w ⟨rfl, hS⟩
      have hC : Core B [Ass.box 75 g7450 [.int .i64 0, .int .i64 0, .int .i32 0, .int .i64 0], Ass.box 83 g7322 [.slice A7324 l7323.length C7325, .slice (some ad7527) l7327.length C7329], Ass.own 3 (Kd.int .i64) A7324 C7325 l7323] [] _ := ⟨_, _, hS⟩
      refine ⟨hC, ?_⟩
      refine ED.one 16 5 #[true, true, true, true, true, true, true, true, true, true, true, true, true, true, true, true, true, false, false, false, false, false] (by kernel_rfl) (by kernel_rfl) (by kernel_rfl) (EO.callD 75 [.int .i32 a7331] _ 22 (by kernel_rfl) (by kernel_rfl) (by kernel_rfl) (confidantref9_Label.calls hc7524 hS) ?_)
      rintro v w ⟨rfl, hS⟩
      have hC : Core B [Ass.box 75 g7450 [.int .i64 0, .int .i64 0, .int .i32 0, .int .i64 0], Ass.box 83 g7322 [.slice A7324 l7323.length C7325, .slice (some ad7527) l7327.length C7329], Ass.own 3 (Kd.int .i64) A7324 C7325 l7323] [] _ := ⟨_, _, hS⟩
      refine ⟨hC, ?_⟩
      refine ED.Y hN hF hC 17 4 #[true, true, true, true, true, true, true, true, true, true, true, true, true, true, true, true, true, true, false, false, false, false] (by kernel_rfl) (by kernel_rfl) rfl (fun _ _ _ hS => YO.idx 80 1 ad7527 l7327.length C7329 .i64 t7523 23 (by kernel_rfl) (by kernel_rfl) (by kernel_rfl) (by kernel_rfl) h7525 h7526) ?_
      refine ED.one 18 3 #[true, true, true, true, true, true, true, true, true, true, true, true, true, true, true, true, true, true, true, false, false, false] (by kernel_rfl) (by kernel_rfl) (by kernel_rfl) (EO.openEl hS 3 ad7527 rfl t7523 h7525 h7526 (fun A7532 C7533 => Ass.box 75 g7450 [.int .i64 0, .int .i64 0, .int .i32 0, .int .i64 0] :: Ass.box 83 g7322 [.slice A7324 l7323.length C7325, .slice (some ad7527) l7327.length C7329] :: Ass.own 3 (Kd.int .i64) A7324 C7325 l7323 :: Ass.holed 87 75 kS75 (some ad7527) C7329 l7327 t7523.toNat (A7532, (l7327.getD t7523.toNat []).length, C7533) :: os) 87 24 (by kernel_rfl) (by kernel_rfl) (by kernel_rfl) (by kernel_rfl) (fun _ _ => rfl) ?_)
      intro A7532 C7533 hS
      have hC : Core B [Ass.box 75 g7450 [.int .i64 0, .int .i64 0, .int .i32 0, .int .i64 0], Ass.box 83 g7322 [.slice A7324 l7323.length C7325, .slice (some ad7527) l7327.length C7329], Ass.own 3 (Kd.int .i64) A7324 C7325 l7323] [] _ := ⟨_, _, hS.re [3, 3, 3] [] rfl sub_self⟩
      refine ⟨hC, ?_⟩
      refine ED.quick hN hF hC [19, 20, 21] [0, 1, 4, 27] 0 [(0, .pointer (some ⟨g7322, 0, none⟩)), (1, .int .i32 a7331), (4, .pointer (some ⟨g7450, 0, none⟩)), (27, .bool (decide (t7521 ≥ ((l7327.getD t7523.toNat []).length : Int))))] #[true, true, true, true, true, true, true, true, true, true, true, true, true, true, true, true, true, true, true, true, true, true] (by kernel_rfl) (by kernel_rfl) ?_
      refine ED.done (by kernel_rfl) ?_
      refine EQ.to ?_
      have hS := St.as (os' := Ass.box 75 g7450 [.int .i64 0, .int .i64 0, .int .i32 0, .int .i64 0] :: Ass.box 83 g7322 [.slice A7324 l7323.length C7325, .slice (some ad7527) l7327.length C7329] :: Ass.own 3 (Kd.int .i64) A7324 C7325 l7323 :: Ass.deep 87 75 kS75 (some ad7527) C7329 l7327 :: os) (St.close hS 0 3 rfl rfl rfl l7327 (set_getD _ _)) rfl
      refine EQ.keep [0, 1, 4, 27] [(0, .pointer (some ⟨g7322, 0, none⟩)), (1, .int .i32 a7331), (4, .pointer (some ⟨g7450, 0, none⟩)), (27, .bool (decide (t7521 ≥ ((l7327.getD t7523.toNat []).length : Int))))] (by kernel_rfl) ?_
      exact fun a ha => ⟨decide (t7521 ≥ ((l7327.getD t7523.toNat []).length : Int)), ha, (hS.re [3, 3, 3, 3] [] rfl (sub_self)), H⟩
    · rw [if_neg h7520] at H
      have hS := hS.drew
      refine EW.draw (B := B) (id := 1) (ops := Cd53.r.l.l.ops) [Ass.box 75 g7450 [.int .i64 0, .int .i64 0, .int .i32 0, .int .i64 0], Ass.box 83 g7322 [.slice A7324 l7323.length C7325, .slice A7328 l7327.length C7329], Ass.own 3 (Kd.int .i64) A7324 C7325 l7323, Ass.deep 87 75 kS75 A7328 C7329 l7327] [] (by kernel_rfl) (by kernel_rfl) ?_
      have hN : Region.noSelect Cd53.r.l.l.ops = true := (by kernel_rfl)
      have hF : freeAll Cd53.r.l.l.ops = true := (by kernel_rfl)
      have hC : Core B [Ass.box 75 g7450 [.int .i64 0, .int .i64 0, .int .i32 0, .int .i64 0], Ass.box 83 g7322 [.slice A7324 l7323.length C7325, .slice A7328 l7327.length C7329], Ass.own 3 (Kd.int .i64) A7324 C7325 l7323, Ass.deep 87 75 kS75 A7328 C7329 l7327] [] _ := ⟨_, _, hS⟩
      refine ED.quick hN hF hC [0, 1, 2, 3] [0, 1, 4, 6, 9] 18 [(0, .pointer (some ⟨g7322, 0, none⟩)), (1, .int .i32 a7331), (4, .pointer (some ⟨g7450, 0, none⟩)), (6, .int .i32 a7331), (9, .pointer (some ⟨g7322, 1, none⟩))] #[true, true, true, true, false, false, false, false, false, false, false, false, false, false, false, false, false, false, false, false, false, false] (by kernel_rfl) (by kernel_rfl) ?_
      refine ED.Y hN hF hC 4 17 #[true, true, true, true, true, false, false, false, false, false, false, false, false, false, false, false, false, false, false, false, false, false] (by kernel_rfl) (by kernel_rfl) rfl (fun _ _ _ hS => YO.loadBox hS 1 rfl 80 1 1 (.slice A7328 l7327.length C7329) 10 (by kernel_rfl) (by kernel_rfl) (by kernel_rfl) (by kernel_rfl)) ?_
      refine ED.quick hN hF hC [5] [0, 1, 4, 6, 11] 16 [(0, .pointer (some ⟨g7322, 0, none⟩)), (1, .int .i32 a7331), (4, .pointer (some ⟨g7450, 0, none⟩)), (6, .int .i32 a7331), (11, .int .i64 (l7327.length : Int))] #[true, true, true, true, true, true, false, false, false, false, false, false, false, false, false, false, false, false, false, false, false, false] (by kernel_rfl) (by kernel_rfl) ?_
      refine ED.one 6 15 #[true, true, true, true, true, true, true, false, false, false, false, false, false, false, false, false, false, false, false, false, false, false] (by kernel_rfl) (by kernel_rfl) (by kernel_rfl) (EO.callD 73 [.int .i32 a7331, .int .i64 (l7327.length : Int)] _ 12 (by kernel_rfl) (by kernel_rfl) (by kernel_rfl) (confidantref9_Valid.calls hc7519 hS) ?_)
      rintro v w ⟨rfl, hS⟩
      have hC : Core B [Ass.box 75 g7450 [.int .i64 0, .int .i64 0, .int .i32 0, .int .i64 0], Ass.box 83 g7322 [.slice A7324 l7323.length C7325, .slice A7328 l7327.length C7329], Ass.own 3 (Kd.int .i64) A7324 C7325 l7323, Ass.deep 87 75 kS75 A7328 C7329 l7327] [] _ := ⟨_, _, hS⟩
      refine ⟨hC, ?_⟩
      refine ED.quick hN hF hC [7, 8] [0, 1, 4, 14] 13 [(0, .pointer (some ⟨g7322, 0, none⟩)), (1, .int .i32 a7331), (4, .pointer (some ⟨g7450, 0, none⟩)), (14, .bool (!(t7518)))] #[true, true, true, true, true, true, true, true, true, false, false, false, false, false, false, false, false, false, false, false, false, false] (by kernel_rfl) (by kernel_rfl) ?_
      refine ED.keep [0, 1, 4, 14] [(0, .pointer (some ⟨g7322, 0, none⟩)), (1, .int .i32 a7331), (4, .pointer (some ⟨g7450, 0, none⟩)), (14, .bool (!(t7518)))] (by kernel_rfl) ?_
      refine ED.as' [(0, .pointer (some ⟨g7322, 0, none⟩)), (1, .int .i32 a7331), (4, .pointer (some ⟨g7450, 0, none⟩)), (14, .bool (true))] (by simp only [(Bool.eq_false_iff.2 h7520), Bool.not_true, Bool.not_false]) ?_
      refine ED.quick hN hF hC [9, 10, 11, 12, 13, 14, 15, 16, 17, 18, 19, 20, 21] [0, 1, 4, 27] 0 [(0, .pointer (some ⟨g7322, 0, none⟩)), (1, .int .i32 a7331), (4, .pointer (some ⟨g7450, 0, none⟩)), (27, .bool (true))] #[true, true, true, true, true, true, true, true, true, true, true, true, true, true, true, true, true, true, true, true, true, true] (by kernel_rfl) (by kernel_rfl) ?_
      refine ED.done (by kernel_rfl) ?_
      refine EQ.to ?_
      refine EQ.keep [0, 1, 4, 27] [(0, .pointer (some ⟨g7322, 0, none⟩)), (1, .int .i32 a7331), (4, .pointer (some ⟨g7450, 0, none⟩)), (27, .bool (true))] (by kernel_rfl) ?_
      exact fun a ha => ⟨true, ha, (hS.re [3, 3, 3, 3] [] rfl (sub_self)), H⟩
  · obtain ⟨x7516, ha, hS, H⟩ := hI
    rw [hj7517] at H
    (try dsimp only at H)
    refine EW.at ?_ a ha
    clear ha a
    refine EW.condP' (o := (.tmp 27)) (x := Cd53.r.l.r.l) (y := Cd53.r.l.r.r) (x7516) (by kernel_rfl) (by kernel_rfl) (fun h7534 => ?_) (fun h7534 => ?_)
    · rw [if_pos h7534] at H
      refine EW.seq (x := Cd53.r.l.r.l.l) (y := Cd53.r.l.r.l.r) (by kernel_rfl) ?_
      refine EW.region (id := 2) (ops := Cd53.r.l.r.l.l.ops) (by kernel_rfl) ?_
      refine EL.quick 1 [4, 28] [(4, .pointer (some ⟨g7450, 0, none⟩)), (28, .agg #[.int .i64 0, .int .i64 0, .int .i32 0, .int .i64 0])] (by kernel_rfl) ?_
      refine EL.of (EO.storeBox (os' := Ass.box 75 g7450 [.int .i64 0, .int .i64 0, .int .i32 0, .int .i64 0] :: Ass.box 83 g7322 [.slice A7324 l7323.length C7325, .slice A7328 l7327.length C7329] :: Ass.own 3 (Kd.int .i64) A7324 C7325 l7323 :: Ass.deep 87 75 kS75 A7328 C7329 l7327 :: os) hS 0 rfl 75 0 (.agg #[.int .i64 0, .int .i64 0, .int .i32 0, .int .i64 0]) [.int .i64 0, .int .i64 0, .int .i32 0, .int .i64 0] (by kernel_rfl) (by kernel_rfl) (by kernel_rfl) (by kernel_rfl) (by kernel_rfl) (by kernel_rfl) rfl rfl ?_)
      intro w hS
      refine EL.quick 1 [4, 5] [(4, .pointer (some ⟨g7450, 0, none⟩)), (5, .bool (false))] (by kernel_rfl) ?_
      refine EL.done (by kernel_rfl) ?_
      refine EQ.code ?_
      refine EW.ret (by kernel_rfl) ?_
      refine EQ.ret ?_
      simp only [Option.some.injEq, Prod.mk.injEq] at H
      obtain ⟨rfl, rfl⟩ := H
      exact EQ.leave2 hS (.cell 4 75) (.tmp 5) (.agg #[.int .i64 0, .int .i64 0, .int .i32 0, .int .i64 0]) (.bool (false)) (by kernel_rfl) ⟨0, 75, g7450, [.int .i64 0, .int .i64 0, .int .i32 0, .int .i64 0], 0, 4, rfl, (by kernel_rfl), (by kernel_rfl)⟩ (oneTmp (by kernel_rfl)) ⟨_, rfl, rfl, (hS.re [3, 3, 3] [3] rfl (sub_self))⟩
    · rw [if_neg h7534] at H
      refine EW.skip (by kernel_rfl) ?_
      refine EQ.code ?_
      refine EW.seq (x := Cd53.r.r.l) (y := Cd53.r.r.r) (by kernel_rfl) ?_
      obtain ⟨t7535, hc7536, H⟩ := b1_out H
      obtain ⟨h7537, H⟩ := ite_in H
      obtain ⟨h7538, H⟩ := ite_in H
      obtain ⟨ad7539, rfl⟩ := St.deep_some hS 3 rfl h7537 h7538
      obtain ⟨t7542, hc7543, H⟩ := b1_out H
      obtain ⟨h7544, H⟩ := ite_in H
      obtain ⟨h7545, H⟩ := ite_in H
      refine EW.meet (id := 3) (ops := Cd53.r.r.l.ops) (fun a w => Sat 41 [(4, .pointer (some ⟨g7450, 0, none⟩)), (5, .bool (true))] a ∧ St B w (Ass.box 75 g7450 [.int .i64 (((l7327.getD t7535.toNat []).getD t7542.toNat zS75).f0), .int .i64 (((l7327.getD t7535.toNat []).getD t7542.toNat zS75).f1), .int .i32 (((l7327.getD t7535.toNat []).getD t7542.toNat zS75).f2), .int .i64 (((l7327.getD t7535.toNat []).getD t7542.toNat zS75).f3)] :: Ass.box 83 g7322 [.slice A7324 l7323.length C7325, .slice (some ad7539) l7327.length C7329] :: Ass.own 3 (Kd.int .i64) A7324 C7325 l7323 :: Ass.deep 87 75 kS75 (some ad7539) C7329 l7327 :: os) (rs)) (by kernel_rfl) ?_ (fun a w hI => ?_)
      · have hS := hS.drew
        refine EW.draw (B := B) (id := 3) (ops := Cd53.r.r.l.ops) [Ass.box 83 g7322 [.slice A7324 l7323.length C7325, .slice (some ad7539) l7327.length C7329], Ass.own 3 (Kd.int .i64) A7324 C7325 l7323] [] (by kernel_rfl) (by kernel_rfl) ?_
        have hN : Region.noSelect Cd53.r.r.l.ops = true := (by kernel_rfl)
        have hF : freeAll Cd53.r.r.l.ops = true := (by kernel_rfl)
        have hC : Core B [Ass.box 83 g7322 [.slice A7324 l7323.length C7325, .slice (some ad7539) l7327.length C7329], Ass.own 3 (Kd.int .i64) A7324 C7325 l7323] [] _ := ⟨_, _, hS.re [2, 2] [] rfl sub_self⟩
        refine ED.quick hN hF hC [0, 1, 2, 4, 8] [4, 31, 33, 37] 9 [(4, .pointer (some ⟨g7450, 0, none⟩)), (31, .pointer (some ⟨g7322, 1, none⟩)), (33, .int .i32 a7331), (37, .int .i32 a7331)] #[true, true, true, false, true, false, false, false, true, false, false, false, false, false] (by kernel_rfl) (by kernel_rfl) ?_
        refine ED.Y hN hF hC 3 8 #[true, true, true, true, true, false, false, false, true, false, false, false, false, false] (by kernel_rfl) (by kernel_rfl) rfl (fun _ _ _ hS => YO.loadBox hS 0 rfl 80 1 1 (.slice (some ad7539) l7327.length C7329) 32 (by kernel_rfl) (by kernel_rfl) (by kernel_rfl) (by kernel_rfl)) ?_
        refine ED.one 5 7 #[true, true, true, true, true, true, false, false, true, false, false, false, false, false] (by kernel_rfl) (by kernel_rfl) (by kernel_rfl) (EO.callD 75 [.int .i32 a7331] _ 34 (by kernel_rfl) (by kernel_rfl) (by kernel_rfl) (confidantref9_Label.calls hc7536 hS) ?_)
        rintro v w ⟨rfl, hS⟩
        have hC : Core B [Ass.box 83 g7322 [.slice A7324 l7323.length C7325, .slice (some ad7539) l7327.length C7329], Ass.own 3 (Kd.int .i64) A7324 C7325 l7323] [] _ := ⟨_, _, hS.re [2, 2] [] rfl sub_self⟩
        refine ⟨hC, ?_⟩
        refine ED.Y hN hF hC 6 6 #[true, true, true, true, true, true, true, false, true, false, false, false, false, false] (by kernel_rfl) (by kernel_rfl) rfl (fun _ _ _ hS => YO.idx 80 1 ad7539 l7327.length C7329 .i64 t7535 35 (by kernel_rfl) (by kernel_rfl) (by kernel_rfl) (by kernel_rfl) h7537 h7538) ?_
        refine ED.two 7 9 5 (by kernel_rfl) (by kernel_rfl) ?_ ?_
        · refine EO.openEl hS 3 ad7539 rfl t7535 h7537 h7538 (fun A7553 C7554 => Ass.box 75 g7450 [.int .i64 0, .int .i64 0, .int .i32 0, .int .i64 0] :: Ass.box 83 g7322 [.slice A7324 l7323.length C7325, .slice (some ad7539) l7327.length C7329] :: Ass.own 3 (Kd.int .i64) A7324 C7325 l7323 :: Ass.holed 87 75 kS75 (some ad7539) C7329 l7327 t7535.toNat (A7553, (l7327.getD t7535.toNat []).length, C7554) :: os) 87 36 (by kernel_rfl) (by kernel_rfl) (by kernel_rfl) (by kernel_rfl) (fun _ _ => rfl) ?_
          intro A7553 C7554 hS
          have hC : Core B [Ass.box 83 g7322 [.slice A7324 l7323.length C7325, .slice (some ad7539) l7327.length C7329], Ass.own 3 (Kd.int .i64) A7324 C7325 l7323] [] _ := ⟨_, _, hS.re [3, 3] [] rfl sub_self⟩
          refine ⟨hC, ?_⟩
          refine ED.at' #[true, true, true, true, true, true, true, true, true, false, false, false, false, false] (by kernel_rfl) ?_
          refine ED.one 9 4 #[true, true, true, true, true, true, true, true, true, true, false, false, false, false] (by kernel_rfl) (by kernel_rfl) (by kernel_rfl) (EO.callD 74 [.int .i32 a7331] _ 38 (by kernel_rfl) (by kernel_rfl) (by kernel_rfl) (confidantref9_Number.calls hc7543 hS) ?_)
          rintro v w ⟨rfl, hS⟩
          have hC : Core B [Ass.box 83 g7322 [.slice A7324 l7323.length C7325, .slice (some ad7539) l7327.length C7329], Ass.own 3 (Kd.int .i64) A7324 C7325 l7323] [] _ := ⟨_, _, hS.re [3, 3] [] rfl sub_self⟩
          refine ⟨hC, ?_⟩
          obtain ⟨ad7555, rfl⟩ := St.rd_some hS (Rd.own 0 75 rfl) h7544 h7545
          refine ED.Y hN hF hC 10 3 #[true, true, true, true, true, true, true, true, true, true, true, false, false, false] (by kernel_rfl) (by kernel_rfl) rfl (fun _ _ _ hS => YO.idx 87 4 ad7555 (l7327.getD t7535.toNat []).length C7554 .i64 t7542 39 (by kernel_rfl) (by kernel_rfl) (by kernel_rfl) (by kernel_rfl) h7544 h7545) ?_
          refine ED.one 11 2 #[true, true, true, true, true, true, true, true, true, true, true, true, false, false] (by kernel_rfl) (by kernel_rfl) (by kernel_rfl) (EO.Y (YO.loadEl hS kS75 ad7555 C7554 (l7327.getD t7535.toNat []) (Rd.own 0 75 rfl) zS75 encS75 encS75_of t7542 h7544 h7545 75 4 0 4 rfl (.agg #[.int .i64 (((l7327.getD t7535.toNat []).getD t7542.toNat zS75).f0), .int .i64 (((l7327.getD t7535.toNat []).getD t7542.toNat zS75).f1), .int .i32 (((l7327.getD t7535.toNat []).getD t7542.toNat zS75).f2), .int .i64 (((l7327.getD t7535.toNat []).getD t7542.toNat zS75).f3)]) 40 (by kernel_rfl) (by kernel_rfl) (by kernel_rfl) (by kernel_rfl)) ?_)
          have hC : Core B [Ass.box 83 g7322 [.slice A7324 l7323.length C7325, .slice (some ad7539) l7327.length C7329], Ass.own 3 (Kd.int .i64) A7324 C7325 l7323] [] _ := ⟨_, _, hS.re [3, 3] [] rfl sub_self⟩
          refine ⟨hC, ?_⟩
          refine ED.one 12 1 #[true, true, true, true, true, true, true, true, true, true, true, true, true, false] (by kernel_rfl) (by kernel_rfl) (by kernel_rfl) (EO.storeBox (os' := Ass.own 75 kS75 (some ad7555) C7554 (l7327.getD t7535.toNat []) :: Ass.box 75 g7450 [.int .i64 (((l7327.getD t7535.toNat []).getD t7542.toNat zS75).f0), .int .i64 (((l7327.getD t7535.toNat []).getD t7542.toNat zS75).f1), .int .i32 (((l7327.getD t7535.toNat []).getD t7542.toNat zS75).f2), .int .i64 (((l7327.getD t7535.toNat []).getD t7542.toNat zS75).f3)] :: Ass.box 83 g7322 [.slice A7324 l7323.length C7325, .slice (some ad7539) l7327.length C7329] :: Ass.own 3 (Kd.int .i64) A7324 C7325 l7323 :: Ass.holed 87 75 kS75 (some ad7539) C7329 l7327 t7535.toNat ((some ad7555), (l7327.getD t7535.toNat []).length, C7554) :: os) hS 1 rfl 75 0 (.agg #[.int .i64 (((l7327.getD t7535.toNat []).getD t7542.toNat zS75).f0), .int .i64 (((l7327.getD t7535.toNat []).getD t7542.toNat zS75).f1), .int .i32 (((l7327.getD t7535.toNat []).getD t7542.toNat zS75).f2), .int .i64 (((l7327.getD t7535.toNat []).getD t7542.toNat zS75).f3)]) [.int .i64 (((l7327.getD t7535.toNat []).getD t7542.toNat zS75).f0), .int .i64 (((l7327.getD t7535.toNat []).getD t7542.toNat zS75).f1), .int .i32 (((l7327.getD t7535.toNat []).getD t7542.toNat zS75).f2), .int .i64 (((l7327.getD t7535.toNat []).getD t7542.toNat zS75).f3)] (by kernel_rfl) (by kernel_rfl) (by kernel_rfl) (by kernel_rfl) (by kernel_rfl) (by kernel_rfl) rfl rfl ?_)
          intro w hS
          have hC : Core B [Ass.box 83 g7322 [.slice A7324 l7323.length C7325, .slice (some ad7539) l7327.length C7329], Ass.own 3 (Kd.int .i64) A7324 C7325 l7323] [] _ := ⟨_, _, hS.re [3, 3] [] rfl sub_self⟩
          refine ⟨hC, ?_⟩
          refine ED.quick hN hF hC [13] [4, 5] 0 [(4, .pointer (some ⟨g7450, 0, none⟩)), (5, .bool (true))] #[true, true, true, true, true, true, true, true, true, true, true, true, true, true] (by kernel_rfl) (by kernel_rfl) ?_
          refine ED.done (by kernel_rfl) ?_
          have hS := St.as (os' := Ass.box 75 g7450 [.int .i64 (((l7327.getD t7535.toNat []).getD t7542.toNat zS75).f0), .int .i64 (((l7327.getD t7535.toNat []).getD t7542.toNat zS75).f1), .int .i32 (((l7327.getD t7535.toNat []).getD t7542.toNat zS75).f2), .int .i64 (((l7327.getD t7535.toNat []).getD t7542.toNat zS75).f3)] :: Ass.box 83 g7322 [.slice A7324 l7323.length C7325, .slice (some ad7539) l7327.length C7329] :: Ass.own 3 (Kd.int .i64) A7324 C7325 l7323 :: Ass.deep 87 75 kS75 (some ad7539) C7329 l7327 :: os) (St.close hS 0 3 rfl rfl rfl l7327 (set_getD _ _)) rfl
          refine EQ.to ?_
          refine EQ.keep [4, 5] [(4, .pointer (some ⟨g7450, 0, none⟩)), (5, .bool (true))] (by kernel_rfl) ?_
          exact fun a ha => ⟨ha, (hS.re [3, 3, 3, 3] [] rfl (sub_self))⟩
        · refine EO.callD 74 [.int .i32 a7331] _ 38 (by kernel_rfl) (by kernel_rfl) (by kernel_rfl) (confidantref9_Number.calls hc7543 hS) ?_
          rintro v w ⟨rfl, hS⟩
          have hC : Core B [Ass.box 83 g7322 [.slice A7324 l7323.length C7325, .slice (some ad7539) l7327.length C7329], Ass.own 3 (Kd.int .i64) A7324 C7325 l7323] [] _ := ⟨_, _, hS.re [2, 2] [] rfl sub_self⟩
          refine ⟨hC, ?_⟩
          refine ED.at' #[true, true, true, true, true, true, true, false, true, true, false, false, false, false] (by kernel_rfl) ?_
          refine ED.one 7 4 #[true, true, true, true, true, true, true, true, true, true, false, false, false, false] (by kernel_rfl) (by kernel_rfl) (by kernel_rfl) (EO.openEl hS 3 ad7539 rfl t7535 h7537 h7538 (fun A7556 C7557 => Ass.box 75 g7450 [.int .i64 0, .int .i64 0, .int .i32 0, .int .i64 0] :: Ass.box 83 g7322 [.slice A7324 l7323.length C7325, .slice (some ad7539) l7327.length C7329] :: Ass.own 3 (Kd.int .i64) A7324 C7325 l7323 :: Ass.holed 87 75 kS75 (some ad7539) C7329 l7327 t7535.toNat (A7556, (l7327.getD t7535.toNat []).length, C7557) :: os) 87 36 (by kernel_rfl) (by kernel_rfl) (by kernel_rfl) (by kernel_rfl) (fun _ _ => rfl) ?_)
          intro A7556 C7557 hS
          have hC : Core B [Ass.box 83 g7322 [.slice A7324 l7323.length C7325, .slice (some ad7539) l7327.length C7329], Ass.own 3 (Kd.int .i64) A7324 C7325 l7323] [] _ := ⟨_, _, hS.re [3, 3] [] rfl sub_self⟩
          refine ⟨hC, ?_⟩
          obtain ⟨ad7558, rfl⟩ := St.rd_some hS (Rd.own 0 75 rfl) h7544 h7545
          refine ED.Y hN hF hC 10 3 #[true, true, true, true, true, true, true, true, true, true, true, false, false, false] (by kernel_rfl) (by kernel_rfl) rfl (fun _ _ _ hS => YO.idx 87 4 ad7558 (l7327.getD t7535.toNat []).length C7557 .i64 t7542 39 (by kernel_rfl) (by kernel_rfl) (by kernel_rfl) (by kernel_rfl) h7544 h7545) ?_
          refine ED.one 11 2 #[true, true, true, true, true, true, true, true, true, true, true, true, false, false] (by kernel_rfl) (by kernel_rfl) (by kernel_rfl) (EO.Y (YO.loadEl hS kS75 ad7558 C7557 (l7327.getD t7535.toNat []) (Rd.own 0 75 rfl) zS75 encS75 encS75_of t7542 h7544 h7545 75 4 0 4 rfl (.agg #[.int .i64 (((l7327.getD t7535.toNat []).getD t7542.toNat zS75).f0), .int .i64 (((l7327.getD t7535.toNat []).getD t7542.toNat zS75).f1), .int .i32 (((l7327.getD t7535.toNat []).getD t7542.toNat zS75).f2), .int .i64 (((l7327.getD t7535.toNat []).getD t7542.toNat zS75).f3)]) 40 (by kernel_rfl) (by kernel_rfl) (by kernel_rfl) (by kernel_rfl)) ?_)
          have hC : Core B [Ass.box 83 g7322 [.slice A7324 l7323.length C7325, .slice (some ad7539) l7327.length C7329], Ass.own 3 (Kd.int .i64) A7324 C7325 l7323] [] _ := ⟨_, _, hS.re [3, 3] [] rfl sub_self⟩
          refine ⟨hC, ?_⟩
          refine ED.one 12 1 #[true, true, true, true, true, true, true, true, true, true, true, true, true, false] (by kernel_rfl) (by kernel_rfl) (by kernel_rfl) (EO.storeBox (os' := Ass.own 75 kS75 (some ad7558) C7557 (l7327.getD t7535.toNat []) :: Ass.box 75 g7450 [.int .i64 (((l7327.getD t7535.toNat []).getD t7542.toNat zS75).f0), .int .i64 (((l7327.getD t7535.toNat []).getD t7542.toNat zS75).f1), .int .i32 (((l7327.getD t7535.toNat []).getD t7542.toNat zS75).f2), .int .i64 (((l7327.getD t7535.toNat []).getD t7542.toNat zS75).f3)] :: Ass.box 83 g7322 [.slice A7324 l7323.length C7325, .slice (some ad7539) l7327.length C7329] :: Ass.own 3 (Kd.int .i64) A7324 C7325 l7323 :: Ass.holed 87 75 kS75 (some ad7539) C7329 l7327 t7535.toNat ((some ad7558), (l7327.getD t7535.toNat []).length, C7557) :: os) hS 1 rfl 75 0 (.agg #[.int .i64 (((l7327.getD t7535.toNat []).getD t7542.toNat zS75).f0), .int .i64 (((l7327.getD t7535.toNat []).getD t7542.toNat zS75).f1), .int .i32 (((l7327.getD t7535.toNat []).getD t7542.toNat zS75).f2), .int .i64 (((l7327.getD t7535.toNat []).getD t7542.toNat zS75).f3)]) [.int .i64 (((l7327.getD t7535.toNat []).getD t7542.toNat zS75).f0), .int .i64 (((l7327.getD t7535.toNat []).getD t7542.toNat zS75).f1), .int .i32 (((l7327.getD t7535.toNat []).getD t7542.toNat zS75).f2), .int .i64 (((l7327.getD t7535.toNat []).getD t7542.toNat zS75).f3)] (by kernel_rfl) (by kernel_rfl) (by kernel_rfl) (by kernel_rfl) (by kernel_rfl) (by kernel_rfl) rfl rfl ?_)
          intro w hS
          have hC : Core B [Ass.box 83 g7322 [.slice A7324 l7323.length C7325, .slice (some ad7539) l7327.length C7329], Ass.own 3 (Kd.int .i64) A7324 C7325 l7323] [] _ := ⟨_, _, hS.re [3, 3] [] rfl sub_self⟩
          refine ⟨hC, ?_⟩
          refine ED.quick hN hF hC [13] [4, 5] 0 [(4, .pointer (some ⟨g7450, 0, none⟩)), (5, .bool (true))] #[true, true, true, true, true, true, true, true, true, true, true, true, true, true] (by kernel_rfl) (by kernel_rfl) ?_
          refine ED.done (by kernel_rfl) ?_
          have hS := St.as (os' := Ass.box 75 g7450 [.int .i64 (((l7327.getD t7535.toNat []).getD t7542.toNat zS75).f0), .int .i64 (((l7327.getD t7535.toNat []).getD t7542.toNat zS75).f1), .int .i32 (((l7327.getD t7535.toNat []).getD t7542.toNat zS75).f2), .int .i64 (((l7327.getD t7535.toNat []).getD t7542.toNat zS75).f3)] :: Ass.box 83 g7322 [.slice A7324 l7323.length C7325, .slice (some ad7539) l7327.length C7329] :: Ass.own 3 (Kd.int .i64) A7324 C7325 l7323 :: Ass.deep 87 75 kS75 (some ad7539) C7329 l7327 :: os) (St.close hS 0 3 rfl rfl rfl l7327 (set_getD _ _)) rfl
          refine EQ.to ?_
          refine EQ.keep [4, 5] [(4, .pointer (some ⟨g7450, 0, none⟩)), (5, .bool (true))] (by kernel_rfl) ?_
          exact fun a ha => ⟨ha, (hS.re [3, 3, 3, 3] [] rfl (sub_self))⟩
      · obtain ⟨ha, hS⟩ := hI
        refine EQ.at ?_ a ha
        clear ha a
        refine EQ.code ?_
        refine EW.ret (by kernel_rfl) ?_
        simp only [Option.some.injEq, Prod.mk.injEq] at H
        obtain ⟨rfl, rfl⟩ := H
        exact EQ.leave2 hS (.cell 4 75) (.tmp 5) (.agg #[.int .i64 (((l7327.getD t7535.toNat []).getD t7542.toNat zS75).f0), .int .i64 (((l7327.getD t7535.toNat []).getD t7542.toNat zS75).f1), .int .i32 (((l7327.getD t7535.toNat []).getD t7542.toNat zS75).f2), .int .i64 (((l7327.getD t7535.toNat []).getD t7542.toNat zS75).f3)]) (.bool (true)) (by kernel_rfl) ⟨0, 75, g7450, [.int .i64 (((l7327.getD t7535.toNat []).getD t7542.toNat zS75).f0), .int .i64 (((l7327.getD t7535.toNat []).getD t7542.toNat zS75).f1), .int .i32 (((l7327.getD t7535.toNat []).getD t7542.toNat zS75).f2), .int .i64 (((l7327.getD t7535.toNat []).getD t7542.toNat zS75).f3)], 0, 4, rfl, (by kernel_rfl), (by kernel_rfl)⟩ (oneTmp (by kernel_rfl)) ⟨_, rfl, rfl, (hS.re [3, 3, 3] [3] rfl (sub_self))⟩

/-! ### (*confidant/confidantref12.Futures).end: function 71 -/
def confidantref12_Futures_end.f (K : Nat) (l7309 : List Int) (l7313 : List (List S75)) (a7317 : Int) (a7318 : Int) (a7319 : Int) (a7320 : Int) : Option (List (List S75) × Bool) := b2 (confidantref12_Futures_Get.f K l7309 l7313 a7317) fun (t7602 : S75) (t7603 : Bool) => (lt (fun (x7616 : Bool) => (if x7616 = true then (some (l7313, false)) else (b1 (confidantref9_Label.f K a7317) fun (t7620 : Int) => (if 0 ≤ t7620 then (if t7620 < (l7313.length : Int) then (b1 (confidantref9_Number.f K a7317) fun (t7627 : Int) => (if 0 ≤ t7627 then (if t7627 < ((l7313.getD t7620.toNat []).length : Int) then (lt ((l7313.getD t7620.toNat []).set t7627.toNat (⟨t7602.f0, a7318, a7319, a7320⟩ : S75)) fun l7632 => (some ((l7313.set t7620.toNat l7632), true))) else none) else none)) else none) else none)))) fun j7617 => (if t7603 = true then (j7617 (!(decide (t7602.f1 = 0)))) else (j7617 true)))
set_option maxRecDepth 100000 in
theorem confidantref12_Futures_end.calls {K : Nat} {l7309 : List Int} {l7313 : List (List S75)} {a7317 : Int} {a7318 : Int} {a7319 : Int} {a7320 : Int} {g7308 : Nat} {A7310 : Option Addr} {C7311 : Nat} {A7314 : Option Addr} {C7315 : Nat} {x7594 : List (List S75)} {x7597 : Bool} {B w : World} {os : List Ass} {rs : List Ro} (H : confidantref12_Futures_end.f K l7309 l7313 a7317 a7318 a7319 a7320 = some (x7594, x7597)) (hS : St B w (Ass.box 83 g7308 [.slice A7310 l7309.length C7311, .slice A7314 l7313.length C7315] :: Ass.own 3 (Kd.int .i64) A7310 C7311 l7309 :: Ass.deep 87 75 kS75 A7314 C7315 l7313 :: os) (rs)) :
    Calls Try.prog 71 [.pointer (some ⟨g7308, 0, none⟩), .int .i32 a7317, .int .i64 a7318, .int .i32 a7319, .int .i64 a7320].toArray w (fun en w' => ∃ v, en = .returned v ∧ ∃ A7595 : Option Addr, ∃ C7596 : Nat, v = .bool (x7597) ∧ St B w' (Ass.box 83 g7308 [.slice A7310 l7309.length C7311, .slice A7595 x7594.length C7596] :: Ass.own 3 (Kd.int .i64) A7310 C7311 l7309 :: Ass.deep 87 75 kS75 A7595 C7596 x7594 :: os) (rs)) := by
  unfold confidantref12_Futures_end.f at H
  refine calls_of_EW (args := [.pointer (some ⟨g7308, 0, none⟩), .int .i32 a7317, .int .i64 a7318, .int .i32 a7319, .int .i64 a7320]) (c := Cd71) 44 Try.func71 (by kernel_rfl) (by kernel_rfl) (by kernel_rfl) ?_
  refine EW.seq (x := Cd71.l) (y := Cd71.r) (by kernel_rfl) ?_
  refine EW.region (id := 0) (ops := Cd71.l.ops) (by kernel_rfl) ?_
  refine EL.quick 1 [0, 1, 2, 3, 4] [(0, .pointer (some ⟨g7308, 0, none⟩)), (1, .int .i32 a7317), (2, .int .i64 a7318), (3, .int .i32 a7319), (4, .int .i64 a7320)] (by kernel_rfl) ?_
  refine EL.done (by kernel_rfl) ?_
  refine EQ.code ?_
  refine EW.seq (x := Cd71.r.l) (y := Cd71.r.r) (by kernel_rfl) ?_
  refine EW.region (id := 1) (ops := Cd71.r.l.ops) (by kernel_rfl) ?_
  refine EL.quick 2 [0, 1, 2, 3, 4, 14, 15] [(0, .pointer (some ⟨g7308, 0, none⟩)), (1, .int .i32 a7317), (2, .int .i64 a7318), (3, .int .i32 a7319), (4, .int .i64 a7320), (14, .pointer (some ⟨g7308, 0, none⟩)), (15, .int .i32 a7317)] (by kernel_rfl) ?_
  obtain ⟨t7602, t7603, hc7604, H⟩ := b2_out H
  refine EL.of (EO.callD 53 [.pointer (some ⟨g7308, 0, none⟩), .int .i32 a7317] _ 16 (by kernel_rfl) (by kernel_rfl) (by kernel_rfl) (confidantref12_Futures_Get.calls hc7604 hS) ?_)
  rintro v w ⟨rfl, hS⟩
  refine EL.quick 3 [0, 1, 2, 3, 4, 17, 18] [(0, .pointer (some ⟨g7308, 0, none⟩)), (1, .int .i32 a7317), (2, .int .i64 a7318), (3, .int .i32 a7319), (4, .int .i64 a7320), (17, .agg #[.int .i64 t7602.f0, .int .i64 t7602.f1, .int .i32 t7602.f2, .int .i64 t7602.f3]), (18, .bool (t7603))] (by kernel_rfl) ?_
  refine EL.of (EO.alloc hS 75 (.agg #[.int .i64 0, .int .i64 0, .int .i32 0, .int .i64 0]) [.int .i64 0, .int .i64 0, .int .i32 0, .int .i64 0] 11 (by kernel_rfl) (by kernel_rfl) (by kernel_rfl) (by kernel_rfl) (by first | rfl | kernel_rfl) ?_)
  intro g7605 w hS
  refine EL.of (EO.storeBox (os' := Ass.box 75 g7605 [.int .i64 t7602.f0, .int .i64 t7602.f1, .int .i32 t7602.f2, .int .i64 t7602.f3] :: Ass.box 83 g7308 [.slice A7310 l7309.length C7311, .slice A7314 l7313.length C7315] :: Ass.own 3 (Kd.int .i64) A7310 C7311 l7309 :: Ass.deep 87 75 kS75 A7314 C7315 l7313 :: os) hS 0 rfl 75 0 (.agg #[.int .i64 t7602.f0, .int .i64 t7602.f1, .int .i32 t7602.f2, .int .i64 t7602.f3]) [.int .i64 t7602.f0, .int .i64 t7602.f1, .int .i32 t7602.f2, .int .i64 t7602.f3] (by kernel_rfl) (by kernel_rfl) (by kernel_rfl) (by kernel_rfl) (by kernel_rfl) (by kernel_rfl) rfl rfl ?_)
  intro w hS
  refine EL.quick 1 [0, 1, 2, 3, 4, 11, 12] [(0, .pointer (some ⟨g7308, 0, none⟩)), (1, .int .i32 a7317), (2, .int .i64 a7318), (3, .int .i32 a7319), (4, .int .i64 a7320), (11, .pointer (some ⟨g7605, 0, none⟩)), (12, .bool (t7603))] (by kernel_rfl) ?_
  refine EL.done (by kernel_rfl) ?_
  refine EQ.code ?_
  refine EW.seq (x := Cd71.r.r.l) (y := Cd71.r.r.r) (by kernel_rfl) ?_
  obtain ⟨j7617, hj7617, H⟩ := lt_out H
  refine EW.cut (x := Cd71.r.r.l.l) (y := Cd71.r.r.l.r) (fun a w => ∃ x7616 : Bool, Sat 44 [(0, .pointer (some ⟨g7308, 0, none⟩)), (1, .int .i32 a7317), (2, .int .i64 a7318), (3, .int .i32 a7319), (4, .int .i64 a7320), (11, .pointer (some ⟨g7605, 0, none⟩)), (25, .bool (x7616))] a ∧ St B w (Ass.box 75 g7605 [.int .i64 t7602.f0, .int .i64 t7602.f1, .int .i32 t7602.f2, .int .i64 t7602.f3] :: Ass.box 83 g7308 [.slice A7310 l7309.length C7311, .slice A7314 l7313.length C7315] :: Ass.own 3 (Kd.int .i64) A7310 C7311 l7309 :: Ass.deep 87 75 kS75 A7314 C7315 l7313 :: os) (rs) ∧ j7617 x7616 = some (x7594, x7597)) (by kernel_rfl) ?_ (fun a w hI => ?_)
  · refine EW.region (id := 2) (ops := Cd71.r.r.l.l.ops) (by kernel_rfl) ?_
    refine EL.quick 3 [0, 1, 2, 3, 4, 11, 21] [(0, .pointer (some ⟨g7308, 0, none⟩)), (1, .int .i32 a7317), (2, .int .i64 a7318), (3, .int .i32 a7319), (4, .int .i64 a7320), (11, .pointer (some ⟨g7605, 0, none⟩)), (21, .bool (!(t7603)))] (by kernel_rfl) ?_
    by_cases h7618 : t7603 = true
    · rw [if_pos h7618] at H
      refine EL.keep [0, 1, 2, 3, 4, 11, 21] [(0, .pointer (some ⟨g7308, 0, none⟩)), (1, .int .i32 a7317), (2, .int .i64 a7318), (3, .int .i32 a7319), (4, .int .i64 a7320), (11, .pointer (some ⟨g7605, 0, none⟩)), (21, .bool (!(t7603)))] (by kernel_rfl) ?_
      refine EL.as' [(0, .pointer (some ⟨g7308, 0, none⟩)), (1, .int .i32 a7317), (2, .int .i64 a7318), (3, .int .i32 a7319), (4, .int .i64 a7320), (11, .pointer (some ⟨g7605, 0, none⟩)), (21, .bool (false))] (by simp only [h7618, Bool.not_true, Bool.not_false]) ?_
      refine EL.quick 1 [0, 1, 2, 3, 4, 11, 21, 22] [(0, .pointer (some ⟨g7308, 0, none⟩)), (1, .int .i32 a7317), (2, .int .i64 a7318), (3, .int .i32 a7319), (4, .int .i64 a7320), (11, .pointer (some ⟨g7605, 0, none⟩)), (21, .bool (false)), (22, .pointer (some ⟨g7605, 1, none⟩))] (by kernel_rfl) ?_
      refine EL.of (EO.Y (YO.loadBox hS 0 rfl 3 1 1 (.int .i64 t7602.f1) 23 (by kernel_rfl) (by kernel_rfl) (by kernel_rfl) (by kernel_rfl)) ?_)
      refine EL.quick 2 [0, 1, 2, 3, 4, 11, 25] [(0, .pointer (some ⟨g7308, 0, none⟩)), (1, .int .i32 a7317), (2, .int .i64 a7318), (3, .int .i32 a7319), (4, .int .i64 a7320), (11, .pointer (some ⟨g7605, 0, none⟩)), (25, .bool (!(decide (t7602.f1 = 0))))] (by kernel_rfl) ?_
      refine EL.done (by kernel_rfl) ?_
      refine EQ.to ?_
      refine EQ.keep [0, 1, 2, 3, 4, 11, 25] [(0, .pointer (some ⟨g7308, 0, none⟩)), (1, .int .i32 a7317), (2, .int .i64 a7318), (3, .int .i32 a7319), (4, .int .i64 a7320), (11, .pointer (some ⟨g7605, 0, none⟩)), (25, .bool (!(decide (t7602.f1 = 0))))] (by kernel_rfl) ?_
      exact fun a ha => ⟨!(decide (t7602.f1 = 0)), ha, (hS.re [3, 3, 3, 3] [] rfl (sub_self)), H⟩
    · rw [if_neg h7618] at H
      refine EL.keep [0, 1, 2, 3, 4, 11, 21] [(0, .pointer (some ⟨g7308, 0, none⟩)), (1, .int .i32 a7317), (2, .int .i64 a7318), (3, .int .i32 a7319), (4, .int .i64 a7320), (11, .pointer (some ⟨g7605, 0, none⟩)), (21, .bool (!(t7603)))] (by kernel_rfl) ?_
      refine EL.as' [(0, .pointer (some ⟨g7308, 0, none⟩)), (1, .int .i32 a7317), (2, .int .i64 a7318), (3, .int .i32 a7319), (4, .int .i64 a7320), (11, .pointer (some ⟨g7605, 0, none⟩)), (21, .bool (true))] (by simp only [(Bool.eq_false_iff.2 h7618), Bool.not_true, Bool.not_false]) ?_
      refine EL.quick 4 [0, 1, 2, 3, 4, 11, 25] [(0, .pointer (some ⟨g7308, 0, none⟩)), (1, .int .i32 a7317), (2, .int .i64 a7318), (3, .int .i32 a7319), (4, .int .i64 a7320), (11, .pointer (some ⟨g7605, 0, none⟩)), (25, .bool (true))] (by kernel_rfl) ?_
      refine EL.done (by kernel_rfl) ?_
      refine EQ.to ?_
      refine EQ.keep [0, 1, 2, 3, 4, 11, 25] [(0, .pointer (some ⟨g7308, 0, none⟩)), (1, .int .i32 a7317), (2, .int .i64 a7318), (3, .int .i32 a7319), (4, .int .i64 a7320), (11, .pointer (some ⟨g7605, 0, none⟩)), (25, .bool (true))] (by kernel_rfl) ?_
      exact fun a ha => ⟨true, ha, (hS.re [3, 3, 3, 3] [] rfl (sub_self)), H⟩
  · obtain ⟨x7616, ha, hS, H⟩ := hI
    rw [hj7617] at H
    (try dsimp only at H)
    refine EW.at ?_ a ha
    clear ha a
    refine EW.condP' (o := (.tmp 25)) (x := Cd71.r.r.l.r.l) (y := Cd71.r.r.l.r.r) (x7616) (by kernel_rfl) (by kernel_rfl) (fun h7619 => ?_) (fun h7619 => ?_)
    · rw [if_pos h7619] at H
      refine EW.seq (x := Cd71.r.r.l.r.l.l) (y := Cd71.r.r.l.r.l.r) (by kernel_rfl) ?_
      refine EW.region (id := 3) (ops := Cd71.r.r.l.r.l.l.ops) (by kernel_rfl) ?_
      refine EL.quick 1 [10] [(10, .bool (false))] (by kernel_rfl) ?_
      refine EL.done (by kernel_rfl) ?_
      refine EQ.code ?_
      refine EW.ret (by kernel_rfl) ?_
      refine EQ.ret ?_
      simp only [Option.some.injEq, Prod.mk.injEq] at H
      obtain ⟨rfl, rfl⟩ := H
      exact EQ.leave (.bool (false)) (by kernel_rfl) ⟨_, rfl, A7314, C7315, rfl, (hS.re [3, 3, 3] [3] rfl (sub_self))⟩
    · rw [if_neg h7619] at H
      refine EW.skip (by kernel_rfl) ?_
      refine EQ.code ?_
      refine EW.seq (x := Cd71.r.r.r.l) (y := Cd71.r.r.r.r) (by kernel_rfl) ?_
      refine EW.region (id := 4) (ops := Cd71.r.r.r.l.ops) (by kernel_rfl) ?_
      refine EL.quick 4 [0, 1, 11, 26, 27, 28, 29] [(0, .pointer (some ⟨g7308, 0, none⟩)), (1, .int .i32 a7317), (11, .pointer (some ⟨g7605, 0, none⟩)), (26, .int .i64 a7318), (27, .int .i32 a7319), (28, .int .i64 a7320), (29, .pointer (some ⟨g7605, 1, none⟩))] (by kernel_rfl) ?_
      refine EL.of (EO.storeBox (os' := Ass.box 75 g7605 [.int .i64 t7602.f0, .int .i64 a7318, .int .i32 t7602.f2, .int .i64 t7602.f3] :: Ass.box 83 g7308 [.slice A7310 l7309.length C7311, .slice A7314 l7313.length C7315] :: Ass.own 3 (Kd.int .i64) A7310 C7311 l7309 :: Ass.deep 87 75 kS75 A7314 C7315 l7313 :: os) hS 0 rfl 3 1 (.int .i64 a7318) [.int .i64 t7602.f0, .int .i64 a7318, .int .i32 t7602.f2, .int .i64 t7602.f3] (by kernel_rfl) (by kernel_rfl) (by kernel_rfl) (by kernel_rfl) (by kernel_rfl) (by kernel_rfl) rfl rfl ?_)
      intro w hS
      refine EL.quick 1 [0, 1, 11, 27, 28, 30] [(0, .pointer (some ⟨g7308, 0, none⟩)), (1, .int .i32 a7317), (11, .pointer (some ⟨g7605, 0, none⟩)), (27, .int .i32 a7319), (28, .int .i64 a7320), (30, .pointer (some ⟨g7605, 2, none⟩))] (by kernel_rfl) ?_
      refine EL.of (EO.storeBox (os' := Ass.box 75 g7605 [.int .i64 t7602.f0, .int .i64 a7318, .int .i32 a7319, .int .i64 t7602.f3] :: Ass.box 83 g7308 [.slice A7310 l7309.length C7311, .slice A7314 l7313.length C7315] :: Ass.own 3 (Kd.int .i64) A7310 C7311 l7309 :: Ass.deep 87 75 kS75 A7314 C7315 l7313 :: os) hS 0 rfl 21 2 (.int .i32 a7319) [.int .i64 t7602.f0, .int .i64 a7318, .int .i32 a7319, .int .i64 t7602.f3] (by kernel_rfl) (by kernel_rfl) (by kernel_rfl) (by kernel_rfl) (by kernel_rfl) (by kernel_rfl) rfl rfl ?_)
      intro w hS
      refine EL.quick 1 [0, 1, 11, 28, 31] [(0, .pointer (some ⟨g7308, 0, none⟩)), (1, .int .i32 a7317), (11, .pointer (some ⟨g7605, 0, none⟩)), (28, .int .i64 a7320), (31, .pointer (some ⟨g7605, 3, none⟩))] (by kernel_rfl) ?_
      refine EL.of (EO.storeBox (os' := Ass.box 75 g7605 [.int .i64 t7602.f0, .int .i64 a7318, .int .i32 a7319, .int .i64 a7320] :: Ass.box 83 g7308 [.slice A7310 l7309.length C7311, .slice A7314 l7313.length C7315] :: Ass.own 3 (Kd.int .i64) A7310 C7311 l7309 :: Ass.deep 87 75 kS75 A7314 C7315 l7313 :: os) hS 0 rfl 73 3 (.int .i64 a7320) [.int .i64 t7602.f0, .int .i64 a7318, .int .i32 a7319, .int .i64 a7320] (by kernel_rfl) (by kernel_rfl) (by kernel_rfl) (by kernel_rfl) (by kernel_rfl) (by kernel_rfl) rfl rfl ?_)
      intro w hS
      refine EL.done (by kernel_rfl) ?_
      refine EQ.code ?_
      refine EW.seq (x := Cd71.r.r.r.r.l) (y := Cd71.r.r.r.r.r) (by kernel_rfl) ?_
      obtain ⟨t7620, hc7621, H⟩ := b1_out H
      obtain ⟨h7622, H⟩ := ite_in H
      obtain ⟨h7623, H⟩ := ite_in H
      obtain ⟨ad7624, rfl⟩ := St.deep_some hS 3 rfl h7622 h7623
      obtain ⟨t7627, hc7628, H⟩ := b1_out H
      obtain ⟨h7629, H⟩ := ite_in H
      obtain ⟨h7630, H⟩ := ite_in H
      obtain ⟨l7632, hl7632, H⟩ := lt_out H
      refine EW.meet (id := 5) (ops := Cd71.r.r.r.r.l.ops) (fun a w => Sat 44 [] a ∧ St B w (Ass.box 75 g7605 [.int .i64 t7602.f0, .int .i64 a7318, .int .i32 a7319, .int .i64 a7320] :: Ass.box 83 g7308 [.slice A7310 l7309.length C7311, .slice (some ad7624) (l7313.set t7620.toNat l7632).length C7315] :: Ass.own 3 (Kd.int .i64) A7310 C7311 l7309 :: Ass.deep 87 75 kS75 (some ad7624) C7315 (l7313.set t7620.toNat l7632) :: os) (rs)) (by kernel_rfl) ?_ (fun a w hI => ?_)
      · have hS := hS.drew
        refine EW.draw (B := B) (id := 5) (ops := Cd71.r.r.r.r.l.ops) [Ass.box 75 g7605 [.int .i64 t7602.f0, .int .i64 a7318, .int .i32 a7319, .int .i64 a7320], Ass.box 83 g7308 [.slice A7310 l7309.length C7311, .slice (some ad7624) l7313.length C7315], Ass.own 3 (Kd.int .i64) A7310 C7311 l7309] [] (by kernel_rfl) (by kernel_rfl) ?_
        have hN : Region.noSelect Cd71.r.r.r.r.l.ops = true := (by kernel_rfl)
        have hF : freeAll Cd71.r.r.r.r.l.ops = true := (by kernel_rfl)
        have hC : Core B [Ass.box 75 g7605 [.int .i64 t7602.f0, .int .i64 a7318, .int .i32 a7319, .int .i64 a7320], Ass.box 83 g7308 [.slice A7310 l7309.length C7311, .slice (some ad7624) l7313.length C7315], Ass.own 3 (Kd.int .i64) A7310 C7311 l7309] [] _ := ⟨_, _, hS⟩
        refine ED.quick hN hF hC [0, 1, 2, 4, 8] [11, 34, 36, 40] 8 [(11, .pointer (some ⟨g7605, 0, none⟩)), (34, .pointer (some ⟨g7308, 1, none⟩)), (36, .int .i32 a7317), (40, .int .i32 a7317)] #[true, true, true, false, true, false, false, false, true, false, false, false, false] (by kernel_rfl) (by kernel_rfl) ?_
        refine ED.Y hN hF hC 3 7 #[true, true, true, true, true, false, false, false, true, false, false, false, false] (by kernel_rfl) (by kernel_rfl) rfl (fun _ _ _ hS => YO.loadBox hS 1 rfl 80 1 1 (.slice (some ad7624) l7313.length C7315) 35 (by kernel_rfl) (by kernel_rfl) (by kernel_rfl) (by kernel_rfl)) ?_
        refine ED.Y hN hF hC 10 6 #[true, true, true, true, true, false, false, false, true, false, true, false, false] (by kernel_rfl) (by kernel_rfl) rfl (fun _ _ _ hS => YO.loadBox hS 0 rfl 75 0 4 (.agg #[.int .i64 t7602.f0, .int .i64 a7318, .int .i32 a7319, .int .i64 a7320]) 42 (by kernel_rfl) (by kernel_rfl) (by kernel_rfl) (by kernel_rfl)) ?_
        refine ED.one 5 5 #[true, true, true, true, true, true, false, false, true, false, true, false, false] (by kernel_rfl) (by kernel_rfl) (by kernel_rfl) (EO.callD 75 [.int .i32 a7317] _ 37 (by kernel_rfl) (by kernel_rfl) (by kernel_rfl) (confidantref9_Label.calls hc7621 hS) ?_)
        rintro v w ⟨rfl, hS⟩
        have hC : Core B [Ass.box 75 g7605 [.int .i64 t7602.f0, .int .i64 a7318, .int .i32 a7319, .int .i64 a7320], Ass.box 83 g7308 [.slice A7310 l7309.length C7311, .slice (some ad7624) l7313.length C7315], Ass.own 3 (Kd.int .i64) A7310 C7311 l7309] [] _ := ⟨_, _, hS⟩
        refine ⟨hC, ?_⟩
        refine ED.Y hN hF hC 6 4 #[true, true, true, true, true, true, true, false, true, false, true, false, false] (by kernel_rfl) (by kernel_rfl) rfl (fun _ _ _ hS => YO.idx 80 1 ad7624 l7313.length C7315 .i64 t7620 38 (by kernel_rfl) (by kernel_rfl) (by kernel_rfl) (by kernel_rfl) h7622 h7623) ?_
        refine ED.two 7 9 3 (by kernel_rfl) (by kernel_rfl) ?_ ?_
        · refine EO.openEl hS 3 ad7624 rfl t7620 h7622 h7623 (fun A7639 C7640 => Ass.box 75 g7605 [.int .i64 t7602.f0, .int .i64 a7318, .int .i32 a7319, .int .i64 a7320] :: Ass.box 83 g7308 [.slice A7310 l7309.length C7311, .slice (some ad7624) l7313.length C7315] :: Ass.own 3 (Kd.int .i64) A7310 C7311 l7309 :: Ass.holed 87 75 kS75 (some ad7624) C7315 l7313 t7620.toNat (A7639, (l7313.getD t7620.toNat []).length, C7640) :: os) 87 39 (by kernel_rfl) (by kernel_rfl) (by kernel_rfl) (by kernel_rfl) (fun _ _ => rfl) ?_
          intro A7639 C7640 hS
          have hC : Core B [Ass.box 75 g7605 [.int .i64 t7602.f0, .int .i64 a7318, .int .i32 a7319, .int .i64 a7320], Ass.box 83 g7308 [.slice A7310 l7309.length C7311, .slice (some ad7624) l7313.length C7315], Ass.own 3 (Kd.int .i64) A7310 C7311 l7309] [] _ := ⟨_, _, hS.re [3, 3, 3] [] rfl sub_self⟩
          refine ⟨hC, ?_⟩
          refine ED.at' #[true, true, true, true, true, true, true, true, true, false, true, false, false] (by kernel_rfl) ?_
          refine ED.one 9 2 #[true, true, true, true, true, true, true, true, true, true, true, false, false] (by kernel_rfl) (by kernel_rfl) (by kernel_rfl) (EO.callD 74 [.int .i32 a7317] _ 41 (by kernel_rfl) (by kernel_rfl) (by kernel_rfl) (confidantref9_Number.calls hc7628 hS) ?_)
          rintro v w ⟨rfl, hS⟩
          have hC : Core B [Ass.box 75 g7605 [.int .i64 t7602.f0, .int .i64 a7318, .int .i32 a7319, .int .i64 a7320], Ass.box 83 g7308 [.slice A7310 l7309.length C7311, .slice (some ad7624) l7313.length C7315], Ass.own 3 (Kd.int .i64) A7310 C7311 l7309] [] _ := ⟨_, _, hS.re [3, 3, 3] [] rfl sub_self⟩
          refine ⟨hC, ?_⟩
          obtain ⟨ad7641, rfl⟩ := St.rd_some hS (Rd.own 0 75 rfl) h7629 h7630
          refine ED.Y hN hF hC 11 1 #[true, true, true, true, true, true, true, true, true, true, true, true, false] (by kernel_rfl) (by kernel_rfl) rfl (fun _ _ _ hS => YO.idx 87 4 ad7641 (l7313.getD t7620.toNat []).length C7640 .i64 t7627 43 (by kernel_rfl) (by kernel_rfl) (by kernel_rfl) (by kernel_rfl) h7629 h7630) ?_
          refine ED.one 12 0 #[true, true, true, true, true, true, true, true, true, true, true, true, true] (by kernel_rfl) (by kernel_rfl) (by kernel_rfl) (EO.storeEl hS 0 kS75 75 ad7641 C7640 (l7313.getD t7620.toNat []) rfl t7627 h7629 h7630 zS75 75 4 0 rfl (.agg #[.int .i64 t7602.f0, .int .i64 a7318, .int .i32 a7319, .int .i64 a7320]) (⟨t7602.f0, a7318, a7319, a7320⟩ : S75) l7632 hl7632 (Ass.own 75 kS75 (some ad7641) C7640 l7632 :: Ass.box 75 g7605 [.int .i64 t7602.f0, .int .i64 a7318, .int .i32 a7319, .int .i64 a7320] :: Ass.box 83 g7308 [.slice A7310 l7309.length C7311, .slice (some ad7624) l7313.length C7315] :: Ass.own 3 (Kd.int .i64) A7310 C7311 l7309 :: Ass.holed 87 75 kS75 (some ad7624) C7315 l7313 t7620.toNat ((some ad7641), (l7313.getD t7620.toNat []).length, C7640) :: os) (by kernel_rfl) (by kernel_rfl) (by kernel_rfl) (by kernel_rfl) (by kernel_rfl) (by kernel_rfl) (fun w G vs hr h => set_whole h (by kernel_rfl) ⟨[.int .i64 t7602.f0], [.int .i64 a7318, .int .i32 a7319, .int .i64 a7320], rfl, rfl, ⟨[.int .i64 a7318], [.int .i32 a7319, .int .i64 a7320], rfl, rfl, ⟨[.int .i32 a7319], [.int .i64 a7320], rfl, rfl, ⟨[.int .i64 a7320], [], rfl, rfl, rfl⟩⟩⟩⟩) rfl ?_)
          intro w hS
          have hC : Core B [Ass.box 75 g7605 [.int .i64 t7602.f0, .int .i64 a7318, .int .i32 a7319, .int .i64 a7320], Ass.box 83 g7308 [.slice A7310 l7309.length C7311, .slice (some ad7624) l7313.length C7315], Ass.own 3 (Kd.int .i64) A7310 C7311 l7309] [] _ := ⟨_, _, hS.re [3, 3, 3] [] rfl sub_self⟩
          refine ⟨hC, ?_⟩
          refine ED.keep [11, 34, 35, 36, 37, 38, 39, 40, 41, 42, 43] [(11, .pointer (some ⟨g7605, 0, none⟩)), (34, .pointer (some ⟨g7308, 1, none⟩)), (35, .slice (some ad7624) l7313.length C7315), (36, .int .i32 a7317), (37, .int .i64 t7620), (38, .pointer (some ((ad7624.add (t7620.toNat * 1)).add 0))), (39, .slice (some ad7641) (l7313.getD t7620.toNat []).length C7640), (40, .int .i32 a7317), (41, .int .i64 t7627), (42, .agg #[.int .i64 t7602.f0, .int .i64 a7318, .int .i32 a7319, .int .i64 a7320]), (43, .pointer (some ((ad7641.add (t7627.toNat * 4)).add 0)))] (by kernel_rfl) ?_
          refine ED.as' [(11, .pointer (some ⟨g7605, 0, none⟩)), (34, .pointer (some ⟨g7308, 1, none⟩)), (35, .slice (some ad7624) l7313.length C7315), (36, .int .i32 a7317), (37, .int .i64 t7620), (38, .pointer (some ((ad7624.add (t7620.toNat * 1)).add 0))), (39, .slice (some ad7641) l7632.length C7640), (40, .int .i32 a7317), (41, .int .i64 t7627), (42, .agg #[.int .i64 t7602.f0, .int .i64 a7318, .int .i32 a7319, .int .i64 a7320]), (43, .pointer (some ((ad7641.add (t7627.toNat * 4)).add 0)))] (by simp only [hl7632, List.length_set]) ?_
          refine ED.done (by kernel_rfl) ?_
          have hS := St.as (os' := Ass.box 75 g7605 [.int .i64 t7602.f0, .int .i64 a7318, .int .i32 a7319, .int .i64 a7320] :: Ass.box 83 g7308 [.slice A7310 l7309.length C7311, .slice (some ad7624) l7313.length C7315] :: Ass.own 3 (Kd.int .i64) A7310 C7311 l7309 :: Ass.deep 87 75 kS75 (some ad7624) C7315 (l7313.set t7620.toNat l7632) :: os) (St.close hS 0 3 rfl rfl (len_set rfl hl7632) (l7313.set t7620.toNat l7632) rfl) rfl
          have hS := St.as hS (os' := Ass.box 75 g7605 [.int .i64 t7602.f0, .int .i64 a7318, .int .i32 a7319, .int .i64 a7320] :: Ass.box 83 g7308 [.slice A7310 l7309.length C7311, .slice (some ad7624) (l7313.set t7620.toNat l7632).length C7315] :: Ass.own 3 (Kd.int .i64) A7310 C7311 l7309 :: Ass.deep 87 75 kS75 (some ad7624) C7315 (l7313.set t7620.toNat l7632) :: os) (by simp only [List.length_set])
          refine EQ.to ?_
          refine EQ.keep [] [] (by kernel_rfl) ?_
          exact fun a ha => ⟨ha, (hS.re [3, 3, 3, 3] [] rfl (sub_self))⟩
        · refine EO.callD 74 [.int .i32 a7317] _ 41 (by kernel_rfl) (by kernel_rfl) (by kernel_rfl) (confidantref9_Number.calls hc7628 hS) ?_
          rintro v w ⟨rfl, hS⟩
          have hC : Core B [Ass.box 75 g7605 [.int .i64 t7602.f0, .int .i64 a7318, .int .i32 a7319, .int .i64 a7320], Ass.box 83 g7308 [.slice A7310 l7309.length C7311, .slice (some ad7624) l7313.length C7315], Ass.own 3 (Kd.int .i64) A7310 C7311 l7309] [] _ := ⟨_, _, hS⟩
          refine ⟨hC, ?_⟩
          refine ED.at' #[true, true, true, true, true, true, true, false, true, true, true, false, false] (by kernel_rfl) ?_
          refine ED.one 7 2 #[true, true, true, true, true, true, true, true, true, true, true, false, false] (by kernel_rfl) (by kernel_rfl) (by kernel_rfl) (EO.openEl hS 3 ad7624 rfl t7620 h7622 h7623 (fun A7642 C7643 => Ass.box 75 g7605 [.int .i64 t7602.f0, .int .i64 a7318, .int .i32 a7319, .int .i64 a7320] :: Ass.box 83 g7308 [.slice A7310 l7309.length C7311, .slice (some ad7624) l7313.length C7315] :: Ass.own 3 (Kd.int .i64) A7310 C7311 l7309 :: Ass.holed 87 75 kS75 (some ad7624) C7315 l7313 t7620.toNat (A7642, (l7313.getD t7620.toNat []).length, C7643) :: os) 87 39 (by kernel_rfl) (by kernel_rfl) (by kernel_rfl) (by kernel_rfl) (fun _ _ => rfl) ?_)
          intro A7642 C7643 hS
          have hC : Core B [Ass.box 75 g7605 [.int .i64 t7602.f0, .int .i64 a7318, .int .i32 a7319, .int .i64 a7320], Ass.box 83 g7308 [.slice A7310 l7309.length C7311, .slice (some ad7624) l7313.length C7315], Ass.own 3 (Kd.int .i64) A7310 C7311 l7309] [] _ := ⟨_, _, hS.re [3, 3, 3] [] rfl sub_self⟩
          refine ⟨hC, ?_⟩
          obtain ⟨ad7644, rfl⟩ := St.rd_some hS (Rd.own 0 75 rfl) h7629 h7630
          refine ED.Y hN hF hC 11 1 #[true, true, true, true, true, true, true, true, true, true, true, true, false] (by kernel_rfl) (by kernel_rfl) rfl (fun _ _ _ hS => YO.idx 87 4 ad7644 (l7313.getD t7620.toNat []).length C7643 .i64 t7627 43 (by kernel_rfl) (by kernel_rfl) (by kernel_rfl) (by kernel_rfl) h7629 h7630) ?_
          refine ED.one 12 0 #[true, true, true, true, true, true, true, true, true, true, true, true, true] (by kernel_rfl) (by kernel_rfl) (by kernel_rfl) (EO.storeEl hS 0 kS75 75 ad7644 C7643 (l7313.getD t7620.toNat []) rfl t7627 h7629 h7630 zS75 75 4 0 rfl (.agg #[.int .i64 t7602.f0, .int .i64 a7318, .int .i32 a7319, .int .i64 a7320]) (⟨t7602.f0, a7318, a7319, a7320⟩ : S75) l7632 hl7632 (Ass.own 75 kS75 (some ad7644) C7643 l7632 :: Ass.box 75 g7605 [.int .i64 t7602.f0, .int .i64 a7318, .int .i32 a7319, .int .i64 a7320] :: Ass.box 83 g7308 [.slice A7310 l7309.length C7311, .slice (some ad7624) l7313.length C7315] :: Ass.own 3 (Kd.int .i64) A7310 C7311 l7309 :: Ass.holed 87 75 kS75 (some ad7624) C7315 l7313 t7620.toNat ((some ad7644), (l7313.getD t7620.toNat []).length, C7643) :: os) (by kernel_rfl) (by kernel_rfl) (by kernel_rfl) (by kernel_rfl) (by kernel_rfl) (by kernel_rfl) (fun w G vs hr h => set_whole h (by kernel_rfl) ⟨[.int .i64 t7602.f0], [.int .i64 a7318, .int .i32 a7319, .int .i64 a7320], rfl, rfl, ⟨[.int .i64 a7318], [.int .i32 a7319, .int .i64 a7320], rfl, rfl, ⟨[.int .i32 a7319], [.int .i64 a7320], rfl, rfl, ⟨[.int .i64 a7320], [], rfl, rfl, rfl⟩⟩⟩⟩) rfl ?_)
          intro w hS
          have hC : Core B [Ass.box 75 g7605 [.int .i64 t7602.f0, .int .i64 a7318, .int .i32 a7319, .int .i64 a7320], Ass.box 83 g7308 [.slice A7310 l7309.length C7311, .slice (some ad7624) l7313.length C7315], Ass.own 3 (Kd.int .i64) A7310 C7311 l7309] [] _ := ⟨_, _, hS.re [3, 3, 3] [] rfl sub_self⟩
          refine ⟨hC, ?_⟩
          refine ED.keep [11, 34, 35, 36, 37, 38, 39, 40, 41, 42, 43] [(11, .pointer (some ⟨g7605, 0, none⟩)), (34, .pointer (some ⟨g7308, 1, none⟩)), (35, .slice (some ad7624) l7313.length C7315), (36, .int .i32 a7317), (37, .int .i64 t7620), (38, .pointer (some ((ad7624.add (t7620.toNat * 1)).add 0))), (39, .slice (some ad7644) (l7313.getD t7620.toNat []).length C7643), (40, .int .i32 a7317), (41, .int .i64 t7627), (42, .agg #[.int .i64 t7602.f0, .int .i64 a7318, .int .i32 a7319, .int .i64 a7320]), (43, .pointer (some ((ad7644.add (t7627.toNat * 4)).add 0)))] (by kernel_rfl) ?_
          refine ED.as' [(11, .pointer (some ⟨g7605, 0, none⟩)), (34, .pointer (some ⟨g7308, 1, none⟩)), (35, .slice (some ad7624) l7313.length C7315), (36, .int .i32 a7317), (37, .int .i64 t7620), (38, .pointer (some ((ad7624.add (t7620.toNat * 1)).add 0))), (39, .slice (some ad7644) l7632.length C7643), (40, .int .i32 a7317), (41, .int .i64 t7627), (42, .agg #[.int .i64 t7602.f0, .int .i64 a7318, .int .i32 a7319, .int .i64 a7320]), (43, .pointer (some ((ad7644.add (t7627.toNat * 4)).add 0)))] (by simp only [hl7632, List.length_set]) ?_
          refine ED.done (by kernel_rfl) ?_
          have hS := St.as (os' := Ass.box 75 g7605 [.int .i64 t7602.f0, .int .i64 a7318, .int .i32 a7319, .int .i64 a7320] :: Ass.box 83 g7308 [.slice A7310 l7309.length C7311, .slice (some ad7624) l7313.length C7315] :: Ass.own 3 (Kd.int .i64) A7310 C7311 l7309 :: Ass.deep 87 75 kS75 (some ad7624) C7315 (l7313.set t7620.toNat l7632) :: os) (St.close hS 0 3 rfl rfl (len_set rfl hl7632) (l7313.set t7620.toNat l7632) rfl) rfl
          have hS := St.as hS (os' := Ass.box 75 g7605 [.int .i64 t7602.f0, .int .i64 a7318, .int .i32 a7319, .int .i64 a7320] :: Ass.box 83 g7308 [.slice A7310 l7309.length C7311, .slice (some ad7624) (l7313.set t7620.toNat l7632).length C7315] :: Ass.own 3 (Kd.int .i64) A7310 C7311 l7309 :: Ass.deep 87 75 kS75 (some ad7624) C7315 (l7313.set t7620.toNat l7632) :: os) (by simp only [List.length_set])
          refine EQ.to ?_
          refine EQ.keep [] [] (by kernel_rfl) ?_
          exact fun a ha => ⟨ha, (hS.re [3, 3, 3, 3] [] rfl (sub_self))⟩
      · obtain ⟨ha, hS⟩ := hI
        refine EQ.at ?_ a ha
        clear ha a
        refine EQ.code ?_
        refine EW.seq (x := Cd71.r.r.r.r.r.l) (y := Cd71.r.r.r.r.r.r) (by kernel_rfl) ?_
        refine EW.region (id := 6) (ops := Cd71.r.r.r.r.r.l.ops) (by kernel_rfl) ?_
        refine EL.quick 1 [10] [(10, .bool (true))] (by kernel_rfl) ?_
        refine EL.done (by kernel_rfl) ?_
        refine EQ.code ?_
        refine EW.ret (by kernel_rfl) ?_
        simp only [Option.some.injEq, Prod.mk.injEq] at H
        obtain ⟨rfl, rfl⟩ := H
        exact EQ.leave (.bool (true)) (by kernel_rfl) ⟨_, rfl, (some ad7624), C7315, rfl, (hS.re [3, 3, 3] [3] rfl (sub_self))⟩

/-! ### (*confidant/confidantref12.Futures).Keep: function 49 -/
def confidantref12_Futures_Keep.f (K : Nat) (l7297 : List Int) (l7301 : List (List S75)) (a7305 : Int) (a7306 : Int) : Option (List (List S75) × Bool) := b2 (confidantref12_Futures_end.f K l7297 l7301 a7305 1 a7306 0) fun (t7654 : List (List S75)) (t7655 : Bool) => (some (t7654, t7655))
set_option maxRecDepth 100000 in
theorem confidantref12_Futures_Keep.calls {K : Nat} {l7297 : List Int} {l7301 : List (List S75)} {a7305 : Int} {a7306 : Int} {g7296 : Nat} {A7298 : Option Addr} {C7299 : Nat} {A7302 : Option Addr} {C7303 : Nat} {x7650 : List (List S75)} {x7653 : Bool} {B w : World} {os : List Ass} {rs : List Ro} (H : confidantref12_Futures_Keep.f K l7297 l7301 a7305 a7306 = some (x7650, x7653)) (hS : St B w (Ass.box 83 g7296 [.slice A7298 l7297.length C7299, .slice A7302 l7301.length C7303] :: Ass.own 3 (Kd.int .i64) A7298 C7299 l7297 :: Ass.deep 87 75 kS75 A7302 C7303 l7301 :: os) (rs)) :
    Calls Try.prog 49 [.pointer (some ⟨g7296, 0, none⟩), .int .i32 a7305, .int .i32 a7306].toArray w (fun en w' => ∃ v, en = .returned v ∧ ∃ A7651 : Option Addr, ∃ C7652 : Nat, v = .bool (x7653) ∧ St B w' (Ass.box 83 g7296 [.slice A7298 l7297.length C7299, .slice A7651 x7650.length C7652] :: Ass.own 3 (Kd.int .i64) A7298 C7299 l7297 :: Ass.deep 87 75 kS75 A7651 C7652 x7650 :: os) (rs)) := by
  unfold confidantref12_Futures_Keep.f at H
  refine calls_of_EW (args := [.pointer (some ⟨g7296, 0, none⟩), .int .i32 a7305, .int .i32 a7306]) (c := Cd49) 11 Try.func49 (by kernel_rfl) (by kernel_rfl) (by kernel_rfl) ?_
  refine EW.seq (x := Cd49.l) (y := Cd49.r) (by kernel_rfl) ?_
  refine EW.region (id := 0) (ops := Cd49.l.ops) (by kernel_rfl) ?_
  refine EL.quick 1 [0, 1, 2] [(0, .pointer (some ⟨g7296, 0, none⟩)), (1, .int .i32 a7305), (2, .int .i32 a7306)] (by kernel_rfl) ?_
  refine EL.done (by kernel_rfl) ?_
  refine EQ.code ?_
  refine EW.seq (x := Cd49.r.l) (y := Cd49.r.r) (by kernel_rfl) ?_
  refine EW.region (id := 1) (ops := Cd49.r.l.ops) (by kernel_rfl) ?_
  refine EL.quick 3 [7, 8, 9] [(7, .pointer (some ⟨g7296, 0, none⟩)), (8, .int .i32 a7305), (9, .int .i32 a7306)] (by kernel_rfl) ?_
  obtain ⟨t7654, t7655, hc7658, H⟩ := b2_out H
  refine EL.of (EO.callD 71 [.pointer (some ⟨g7296, 0, none⟩), .int .i32 a7305, .int .i64 1, .int .i32 a7306, .int .i64 0] _ 10 (by kernel_rfl) (by kernel_rfl) (by kernel_rfl) (confidantref12_Futures_end.calls hc7658 hS) ?_)
  rintro v w ⟨A7656, C7657, rfl, hS⟩
  refine EL.quick 1 [6] [(6, .bool (t7655))] (by kernel_rfl) ?_
  refine EL.done (by kernel_rfl) ?_
  refine EQ.code ?_
  refine EW.ret (by kernel_rfl) ?_
  simp only [Option.some.injEq, Prod.mk.injEq] at H
  obtain ⟨rfl, rfl⟩ := H
  exact EQ.leave (.bool (t7655)) (by kernel_rfl) ⟨_, rfl, A7656, C7657, rfl, (hS.re [2, 2, 2] [] rfl (sub_self))⟩

/-! ### (*confidant/confidantref12.Futures).Break: function 51 -/
def confidantref12_Futures_Break.f (K : Nat) (l7683 : List Int) (l7687 : List (List S75)) (a7691 : Int) (a7692 : Int) : Option (List (List S75) × Bool) := b2 (confidantref12_Futures_end.f K l7683 l7687 a7691 2 0 a7692) fun (t7702 : List (List S75)) (t7703 : Bool) => (some (t7702, t7703))
set_option maxRecDepth 100000 in
theorem confidantref12_Futures_Break.calls {K : Nat} {l7683 : List Int} {l7687 : List (List S75)} {a7691 : Int} {a7692 : Int} {g7682 : Nat} {A7684 : Option Addr} {C7685 : Nat} {A7688 : Option Addr} {C7689 : Nat} {x7698 : List (List S75)} {x7701 : Bool} {B w : World} {os : List Ass} {rs : List Ro} (H : confidantref12_Futures_Break.f K l7683 l7687 a7691 a7692 = some (x7698, x7701)) (hS : St B w (Ass.box 83 g7682 [.slice A7684 l7683.length C7685, .slice A7688 l7687.length C7689] :: Ass.own 3 (Kd.int .i64) A7684 C7685 l7683 :: Ass.deep 87 75 kS75 A7688 C7689 l7687 :: os) (rs)) :
    Calls Try.prog 51 [.pointer (some ⟨g7682, 0, none⟩), .int .i32 a7691, .int .i64 a7692].toArray w (fun en w' => ∃ v, en = .returned v ∧ ∃ A7699 : Option Addr, ∃ C7700 : Nat, v = .bool (x7701) ∧ St B w' (Ass.box 83 g7682 [.slice A7684 l7683.length C7685, .slice A7699 x7698.length C7700] :: Ass.own 3 (Kd.int .i64) A7684 C7685 l7683 :: Ass.deep 87 75 kS75 A7699 C7700 x7698 :: os) (rs)) := by
  unfold confidantref12_Futures_Break.f at H
  refine calls_of_EW (args := [.pointer (some ⟨g7682, 0, none⟩), .int .i32 a7691, .int .i64 a7692]) (c := Cd51) 11 Try.func51 (by kernel_rfl) (by kernel_rfl) (by kernel_rfl) ?_
  refine EW.seq (x := Cd51.l) (y := Cd51.r) (by kernel_rfl) ?_
  refine EW.region (id := 0) (ops := Cd51.l.ops) (by kernel_rfl) ?_
  refine EL.quick 1 [0, 1, 2] [(0, .pointer (some ⟨g7682, 0, none⟩)), (1, .int .i32 a7691), (2, .int .i64 a7692)] (by kernel_rfl) ?_
  refine EL.done (by kernel_rfl) ?_
  refine EQ.code ?_
  refine EW.seq (x := Cd51.r.l) (y := Cd51.r.r) (by kernel_rfl) ?_
  refine EW.region (id := 1) (ops := Cd51.r.l.ops) (by kernel_rfl) ?_
  refine EL.quick 3 [7, 8, 9] [(7, .pointer (some ⟨g7682, 0, none⟩)), (8, .int .i32 a7691), (9, .int .i64 a7692)] (by kernel_rfl) ?_
  obtain ⟨t7702, t7703, hc7706, H⟩ := b2_out H
  refine EL.of (EO.callD 71 [.pointer (some ⟨g7682, 0, none⟩), .int .i32 a7691, .int .i64 2, .int .i32 0, .int .i64 a7692] _ 10 (by kernel_rfl) (by kernel_rfl) (by kernel_rfl) (confidantref12_Futures_end.calls hc7706 hS) ?_)
  rintro v w ⟨A7704, C7705, rfl, hS⟩
  refine EL.quick 1 [6] [(6, .bool (t7703))] (by kernel_rfl) ?_
  refine EL.done (by kernel_rfl) ?_
  refine EQ.code ?_
  refine EW.ret (by kernel_rfl) ?_
  simp only [Option.some.injEq, Prod.mk.injEq] at H
  obtain ⟨rfl, rfl⟩ := H
  exact EQ.leave (.bool (t7703)) (by kernel_rfl) ⟨_, rfl, A7704, C7705, rfl, (hS.re [2, 2, 2] [] rfl (sub_self))⟩

/-! ### (*confidant/confidantref12.Futures).Count: function 55 -/
def confidantref12_Futures_Count.f (K : Nat) (l7928 : List Int) (l7932 : List (List S75)) (a7936 : Int) : Option Int := lt (fun (x7967 : Bool) => (if x7967 = true then (some 0) else (if 0 ≤ a7936 then (if a7936 < (l7932.length : Int) then (some ((l7932.getD a7936.toNat []).length : Int)) else none) else none))) fun j7968 => (if a7936 < 0 then (j7968 true) else (j7968 (decide (a7936 ≥ (l7932.length : Int)))))
set_option maxRecDepth 100000 in
theorem confidantref12_Futures_Count.calls {K : Nat} {l7928 : List Int} {l7932 : List (List S75)} {a7936 : Int} {g7927 : Nat} {A7929 : Option Addr} {C7930 : Nat} {A7933 : Option Addr} {C7934 : Nat} {x7956 : Int} {B w : World} {os : List Ass} {rs : List Ro} (H : confidantref12_Futures_Count.f K l7928 l7932 a7936 = some x7956) (hS : St B w (Ass.box 83 g7927 [.slice A7929 l7928.length C7930, .slice A7933 l7932.length C7934] :: Ass.own 3 (Kd.int .i64) A7929 C7930 l7928 :: Ass.deep 87 75 kS75 A7933 C7934 l7932 :: os) (rs)) :
    Calls Try.prog 55 [.pointer (some ⟨g7927, 0, none⟩), .int .i64 a7936].toArray w (fun en w' => ∃ v, en = .returned v ∧ v = .int .i64 x7956 ∧ St B w' (Ass.box 83 g7927 [.slice A7929 l7928.length C7930, .slice A7933 l7932.length C7934] :: Ass.own 3 (Kd.int .i64) A7929 C7930 l7928 :: Ass.deep 87 75 kS75 A7933 C7934 l7932 :: os) (rs)) := by
  unfold confidantref12_Futures_Count.f at H
  refine calls_of_EW (args := [.pointer (some ⟨g7927, 0, none⟩), .int .i64 a7936]) (c := Cd55) 24 Try.func55 (by kernel_rfl) (by kernel_rfl) (by kernel_rfl) ?_
  refine EW.seq (x := Cd55.l) (y := Cd55.r) (by kernel_rfl) ?_
  refine EW.region (id := 0) (ops := Cd55.l.ops) (by kernel_rfl) ?_
  refine EL.quick 1 [0, 1] [(0, .pointer (some ⟨g7927, 0, none⟩)), (1, .int .i64 a7936)] (by kernel_rfl) ?_
  refine EL.done (by kernel_rfl) ?_
  refine EQ.code ?_
  refine EW.seq (x := Cd55.r.l) (y := Cd55.r.r) (by kernel_rfl) ?_
  obtain ⟨j7968, hj7968, H⟩ := lt_out H
  refine EW.cut (x := Cd55.r.l.l) (y := Cd55.r.l.r) (fun a w => ∃ x7967 : Bool, Sat 24 [(0, .pointer (some ⟨g7927, 0, none⟩)), (1, .int .i64 a7936), (15, .bool (x7967))] a ∧ St B w (Ass.box 83 g7927 [.slice A7929 l7928.length C7930, .slice A7933 l7932.length C7934] :: Ass.own 3 (Kd.int .i64) A7929 C7930 l7928 :: Ass.deep 87 75 kS75 A7933 C7934 l7932 :: os) (rs) ∧ j7968 x7967 = some x7956) (by kernel_rfl) ?_ (fun a w hI => ?_)
  · refine EW.region (id := 1) (ops := Cd55.r.l.l.ops) (by kernel_rfl) ?_
    refine EL.quick 3 [0, 1, 7] [(0, .pointer (some ⟨g7927, 0, none⟩)), (1, .int .i64 a7936), (7, .bool (decide (a7936 < 0)))] (by kernel_rfl) ?_
    by_cases h7969 : a7936 < 0
    · rw [if_pos h7969] at H
      refine EL.keep [0, 1, 7] [(0, .pointer (some ⟨g7927, 0, none⟩)), (1, .int .i64 a7936), (7, .bool (decide (a7936 < 0)))] (by kernel_rfl) ?_
      refine EL.as' [(0, .pointer (some ⟨g7927, 0, none⟩)), (1, .int .i64 a7936), (7, .bool (true))] (by simp only [dec_t h7969, Bool.not_true, Bool.not_false]) ?_
      refine EL.quick 8 [0, 1, 15] [(0, .pointer (some ⟨g7927, 0, none⟩)), (1, .int .i64 a7936), (15, .bool (true))] (by kernel_rfl) ?_
      refine EL.done (by kernel_rfl) ?_
      refine EQ.to ?_
      refine EQ.keep [0, 1, 15] [(0, .pointer (some ⟨g7927, 0, none⟩)), (1, .int .i64 a7936), (15, .bool (true))] (by kernel_rfl) ?_
      exact fun a ha => ⟨true, ha, (hS.re [2, 2, 2] [] rfl (sub_self)), H⟩
    · rw [if_neg h7969] at H
      refine EL.keep [0, 1, 7] [(0, .pointer (some ⟨g7927, 0, none⟩)), (1, .int .i64 a7936), (7, .bool (decide (a7936 < 0)))] (by kernel_rfl) ?_
      refine EL.as' [(0, .pointer (some ⟨g7927, 0, none⟩)), (1, .int .i64 a7936), (7, .bool (false))] (by simp only [dec_f h7969, Bool.not_true, Bool.not_false]) ?_
      refine EL.quick 4 [0, 1, 7, 8, 11] [(0, .pointer (some ⟨g7927, 0, none⟩)), (1, .int .i64 a7936), (7, .bool (false)), (8, .int .i64 a7936), (11, .pointer (some ⟨g7927, 1, none⟩))] (by kernel_rfl) ?_
      refine EL.of (EO.Y (YO.loadBox hS 0 rfl 80 1 1 (.slice A7933 l7932.length C7934) 12 (by kernel_rfl) (by kernel_rfl) (by kernel_rfl) (by kernel_rfl)) ?_)
      refine EL.quick 3 [0, 1, 15] [(0, .pointer (some ⟨g7927, 0, none⟩)), (1, .int .i64 a7936), (15, .bool (decide (a7936 ≥ (l7932.length : Int))))] (by kernel_rfl) ?_
      refine EL.done (by kernel_rfl) ?_
      refine EQ.to ?_
      refine EQ.keep [0, 1, 15] [(0, .pointer (some ⟨g7927, 0, none⟩)), (1, .int .i64 a7936), (15, .bool (decide (a7936 ≥ (l7932.length : Int))))] (by kernel_rfl) ?_
      exact fun a ha => ⟨decide (a7936 ≥ (l7932.length : Int)), ha, (hS.re [2, 2, 2] [] rfl (sub_self)), H⟩
  · obtain ⟨x7967, ha, hS, H⟩ := hI
    rw [hj7968] at H
    (try dsimp only at H)
    refine EW.at ?_ a ha
    clear ha a
    refine EW.condP' (o := (.tmp 15)) (x := Cd55.r.l.r.l) (y := Cd55.r.l.r.r) (x7967) (by kernel_rfl) (by kernel_rfl) (fun h7970 => ?_) (fun h7970 => ?_)
    · rw [if_pos h7970] at H
      refine EW.seq (x := Cd55.r.l.r.l.l) (y := Cd55.r.l.r.l.r) (by kernel_rfl) ?_
      refine EW.region (id := 2) (ops := Cd55.r.l.r.l.l.ops) (by kernel_rfl) ?_
      refine EL.quick 1 [4] [(4, .int .i64 0)] (by kernel_rfl) ?_
      refine EL.done (by kernel_rfl) ?_
      refine EQ.code ?_
      refine EW.ret (by kernel_rfl) ?_
      refine EQ.ret ?_
      obtain rfl := Option.some.inj H
      exact EQ.leave (.int .i64 0) (by kernel_rfl) ⟨_, rfl, rfl, (hS.re [2, 2, 2] [] rfl (sub_self))⟩
    · rw [if_neg h7970] at H
      refine EW.skip (by kernel_rfl) ?_
      refine EQ.code ?_
      refine EW.seq (x := Cd55.r.r.l) (y := Cd55.r.r.r) (by kernel_rfl) ?_
      refine EW.region (id := 3) (ops := Cd55.r.r.l.ops) (by kernel_rfl) ?_
      refine EL.quick 3 [1, 18] [(1, .int .i64 a7936), (18, .pointer (some ⟨g7927, 1, none⟩))] (by kernel_rfl) ?_
      refine EL.of (EO.Y (YO.loadBox hS 0 rfl 80 1 1 (.slice A7933 l7932.length C7934) 19 (by kernel_rfl) (by kernel_rfl) (by kernel_rfl) (by kernel_rfl)) ?_)
      refine EL.quick 1 [19, 20] [(19, .slice A7933 l7932.length C7934), (20, .int .i64 a7936)] (by kernel_rfl) ?_
      obtain ⟨h7971, H⟩ := ite_in H
      obtain ⟨h7972, H⟩ := ite_in H
      obtain ⟨ad7973, rfl⟩ := St.deep_some hS 2 rfl h7971 h7972
      refine EL.of (EO.Y (YO.idx 80 1 ad7973 l7932.length C7934 .i64 a7936 21 (by kernel_rfl) (by kernel_rfl) (by kernel_rfl) (by kernel_rfl) h7971 h7972) ?_)
      refine EL.of (EO.openEl hS 2 ad7973 rfl a7936 h7971 h7972 (fun A7974 C7975 => Ass.box 83 g7927 [.slice A7929 l7928.length C7930, .slice (some ad7973) l7932.length C7934] :: Ass.own 3 (Kd.int .i64) A7929 C7930 l7928 :: Ass.holed 87 75 kS75 (some ad7973) C7934 l7932 a7936.toNat (A7974, (l7932.getD a7936.toNat []).length, C7975) :: os) 87 22 (by kernel_rfl) (by kernel_rfl) (by kernel_rfl) (by kernel_rfl) (fun _ _ => rfl) ?_)
      intro A7974 C7975 hS
      refine EL.quick 2 [4] [(4, .int .i64 ((l7932.getD a7936.toNat []).length : Int))] (by kernel_rfl) ?_
      refine EL.done (by kernel_rfl) ?_
      refine EQ.code ?_
      refine EW.ret (by kernel_rfl) ?_
      have hS := St.as (os' := Ass.box 83 g7927 [.slice A7929 l7928.length C7930, .slice (some ad7973) l7932.length C7934] :: Ass.own 3 (Kd.int .i64) A7929 C7930 l7928 :: Ass.deep 87 75 kS75 (some ad7973) C7934 l7932 :: os) (St.close hS 0 2 rfl rfl rfl l7932 (set_getD _ _)) rfl
      obtain rfl := Option.some.inj H
      exact EQ.leave (.int .i64 ((l7932.getD a7936.toNat []).length : Int)) (by kernel_rfl) ⟨_, rfl, rfl, (hS.re [2, 2, 2] [] rfl (sub_self))⟩

end Go.Proofs.Ytjfnejcanlkknaa.G
