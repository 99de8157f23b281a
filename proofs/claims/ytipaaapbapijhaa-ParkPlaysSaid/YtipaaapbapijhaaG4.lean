import Derived.Test.YtipaaapbapijhaaProg
import Derived.Test.YtipaaapbapijhaaFwEq
import Derived.Test.YtipaaapbapijhaaFwOpen
import Derived.Test.YtipaaapbapijhaaG0
import Derived.Test.YtipaaapbapijhaaG3
namespace Go.Proofs.Ytipaaapbapijhaa.G
open Go Go.Fw Go.RowKit Go.Proofs
set_option linter.unusedVariables false
set_option linter.unusedSimpArgs false

/-! ### (*confidant/confidantref12.Futures).Make: function 19 -/
def confidantref12_Futures_Make.f (K : Nat) (a3 : List Int) (a4 : List (List S96)) (a0 : Int) (a9 : Int) : Option (List (List S96) × Int × Bool) := lt (fun (d5 : Bool) => (if d5 = true then (some (a4, 0, false)) else (if 0 ≤ a0 then (if a0 < (a4.length : Int) then (b2 (confidantref9_Of.f K a0 ((a4.getD a0.toNat []).length : Int)) fun (b1 : Int) (j3 : Bool) => (lt ([(⟨a9, 0, 0, 0⟩ : S96)] : List S96) fun a8 => (if ((a4.getD a0.toNat []).length + a8.length) * 32 ≤ 140737488355328 then (lt ((a4.getD a0.toNat []) ++ a8) fun b7 => (lt (a4.set a0.toNat b7) fun b0 => (some (b0, b1, true)))) else none))) else none) else none))) fun d7 => (if a0 < 0 then (d7 true) else (if a0 ≥ (a4.length : Int) then (d7 true) else (if 0 ≤ a0 then (if a0 < (a4.length : Int) then (if a0 < (a3.length : Int) then (d7 (decide (((a4.getD a0.toNat []).length : Int) ≥ (a3.getD a0.toNat 0)))) else none) else none) else none)))
set_option maxRecDepth 100000 in
theorem confidantref12_Futures_Make.calls {K : Nat} {a3 : List Int} {a4 : List (List S96)} {a0 : Int} {a9 : Int} {a7 : Nat} {a6 : Option Addr} {a5 : Nat} {c2 : Option Addr} {a2 : Nat} {d9 : List (List S96)} {e3 : Int} {e4 : Bool} {B w : World} {os : List Ass} {rs : List Ro} (H : confidantref12_Futures_Make.f K a3 a4 a0 a9 = some (d9, e3, e4)) (hS : St B w (Ass.box 105 a7 [.slice a6 a3.length a5, .slice c2 a4.length a2] :: Ass.own 3 (Kd.int .i64) a6 a5 a3 :: Ass.deep 94 96 kS96 c2 a2 a4 :: os) (rs)) :
  Calls Try.prog 19 [.pointer (some ⟨a7, 0, none⟩), .int .i64 a0, .int .i64 a9].toArray w (fun en w' => ∃ v, en = .returned v ∧ ∃ e5 : Option Addr, ∃ g3 : Nat, v = .tuple #[.int .i32 e3, .bool (e4)] ∧ St B w' (Ass.box 105 a7 [.slice a6 a3.length a5, .slice e5 d9.length g3] :: Ass.own 3 (Kd.int .i64) a6 a5 a3 :: Ass.deep 94 96 kS96 e5 g3 d9 :: os) (rs)) := by
 unfold confidantref12_Futures_Make.f at H
 refine calls_of_EW (args := [.pointer (some ⟨a7, 0, none⟩), .int .i64 a0, .int .i64 a9]) (c := Cd19) 70 Try.func19 (by kernel_rfl) (by kernel_rfl) (by kernel_rfl) ?_
 refine EW.seq (x := Cd19.l) (y := Cd19.r) (by kernel_rfl) ?_
 refine EW.region (id := 0) (ops := Cd19.l.ops) (by kernel_rfl) ?_
 refine EL.quick 2 [0, 1, 2] [(0, .pointer (some ⟨a7, 0, none⟩)), (1, .int .i64 a0), (2, .int .i64 a9)] (by kernel_rfl) ?_
 refine EL.done (by kernel_rfl) ?_
 refine EQ.code ?_
 refine EW.seq (x := Cd19.r.l) (y := Cd19.r.r) (by kernel_rfl) ?_
 obtain ⟨d7, j2, H⟩ := lt_out H
 refine EW.cut (x := Cd19.r.l.l) (y := Cd19.r.l.r) (fun a w => ∃ d5 : Bool, Sat 70 [(0, .pointer (some ⟨a7, 0, none⟩)), (1, .int .i64 a0), (2, .int .i64 a9), (38, .bool (d5))] a ∧ St B w (Ass.box 105 a7 [.slice a6 a3.length a5, .slice c2 a4.length a2] :: Ass.own 3 (Kd.int .i64) a6 a5 a3 :: Ass.deep 94 96 kS96 c2 a2 a4 :: os) (rs) ∧ d7 d5 = some (d9, e3, e4)) (by kernel_rfl) ?_ (fun a w hI => ?_)
 ·by_cases d6 : a0 < 0
  ·rw [if_pos d6] at H
   have hS := hS.drew
   refine EW.draw (B := B) (id := 1) (ops := Cd19.r.l.l.ops) [Ass.box 105 a7 [.slice a6 a3.length a5, .slice c2 a4.length a2], Ass.own 3 (Kd.int .i64) a6 a5 a3, Ass.deep 94 96 kS96 c2 a2 a4] [] (by kernel_rfl) (by kernel_rfl) ?_
   have hN : Region.noSelect Cd19.r.l.l.ops = true := (by kernel_rfl)
   have hF : freeAll Cd19.r.l.l.ops = true := (by kernel_rfl)
   have hC : Core B [Ass.box 105 a7 [.slice a6 a3.length a5, .slice c2 a4.length a2], Ass.own 3 (Kd.int .i64) a6 a5 a3, Ass.deep 94 96 kS96 c2 a2 a4] [] _ := ⟨_, _, hS⟩
   refine ED.quick hN hF hC [0, 1, 2] [0, 1, 2, 12] 26 [(0, .pointer (some ⟨a7, 0, none⟩)), (1, .int .i64 a0), (2, .int .i64 a9), (12, .bool (decide (a0 < 0)))] #[true, true, true, false, false, false, false, false, false, false, false, false, false, false, false, false, false, false, false, false, false, false, false, false, false, false, false, false, false] (by kernel_rfl) (by kernel_rfl) ?_
   refine ED.keep [0, 1, 2, 12] [(0, .pointer (some ⟨a7, 0, none⟩)), (1, .int .i64 a0), (2, .int .i64 a9), (12, .bool (decide (a0 < 0)))] (by kernel_rfl) ?_
   refine ED.as' [(0, .pointer (some ⟨a7, 0, none⟩)), (1, .int .i64 a0), (2, .int .i64 a9), (12, .bool (true))] (by simp only [dec_t d6, Bool.not_true, Bool.not_false]) ?_
   refine ED.quick hN hF hC [3, 4, 5, 6, 7, 8, 9, 10, 11, 12, 13, 14, 15, 16, 17, 18, 19, 20, 21, 22, 23, 24, 25, 26, 27, 28] [0, 1, 2, 38] 0 [(0, .pointer (some ⟨a7, 0, none⟩)), (1, .int .i64 a0), (2, .int .i64 a9), (38, .bool (true))] #[true, true, true, true, true, true, true, true, true, true, true, true, true, true, true, true, true, true, true, true, true, true, true, true, true, true, true, true, true] (by kernel_rfl) (by kernel_rfl) ?_
   refine ED.done (by kernel_rfl) ?_
   refine EQ.to ?_
   refine EQ.keep [0, 1, 2, 38] [(0, .pointer (some ⟨a7, 0, none⟩)), (1, .int .i64 a0), (2, .int .i64 a9), (38, .bool (true))] (by kernel_rfl) ?_
   exact fun a ha => ⟨true, ha, (hS.re [2, 2, 2] [] rfl (sub_self)), H⟩
  ·rw [if_neg d6] at H
   by_cases d8 : a0 ≥ (a4.length : Int)
   ·rw [if_pos d8] at H
    have hS := hS.drew
    refine EW.draw (B := B) (id := 1) (ops := Cd19.r.l.l.ops) [Ass.box 105 a7 [.slice a6 a3.length a5, .slice c2 a4.length a2], Ass.own 3 (Kd.int .i64) a6 a5 a3, Ass.deep 94 96 kS96 c2 a2 a4] [] (by kernel_rfl) (by kernel_rfl) ?_
    have hN : Region.noSelect Cd19.r.l.l.ops = true := (by kernel_rfl)
    have hF : freeAll Cd19.r.l.l.ops = true := (by kernel_rfl)
    have hC : Core B [Ass.box 105 a7 [.slice a6 a3.length a5, .slice c2 a4.length a2], Ass.own 3 (Kd.int .i64) a6 a5 a3, Ass.deep 94 96 kS96 c2 a2 a4] [] _ := ⟨_, _, hS⟩
    refine ED.quick hN hF hC [0, 1, 2] [0, 1, 2, 12] 26 [(0, .pointer (some ⟨a7, 0, none⟩)), (1, .int .i64 a0), (2, .int .i64 a9), (12, .bool (decide (a0 < 0)))] #[true, true, true, false, false, false, false, false, false, false, false, false, false, false, false, false, false, false, false, false, false, false, false, false, false, false, false, false, false] (by kernel_rfl) (by kernel_rfl) ?_
    refine ED.keep [0, 1, 2, 12] [(0, .pointer (some ⟨a7, 0, none⟩)), (1, .int .i64 a0), (2, .int .i64 a9), (12, .bool (decide (a0 < 0)))] (by kernel_rfl) ?_
    refine ED.as' [(0, .pointer (some ⟨a7, 0, none⟩)), (1, .int .i64 a0), (2, .int .i64 a9), (12, .bool (false))] (by simp only [dec_f d6, Bool.not_true, Bool.not_false]) ?_
    refine ED.quick hN hF hC [3, 4, 5, 6] [0, 1, 2, 12, 13, 16] 22 [(0, .pointer (some ⟨a7, 0, none⟩)), (1, .int .i64 a0), (2, .int .i64 a9), (12, .bool (false)), (13, .int .i64 a0), (16, .pointer (some ⟨a7, 1, none⟩))] #[true, true, true, true, true, true, true, false, false, false, false, false, false, false, false, false, false, false, false, false, false, false, false, false, false, false, false, false, false] (by kernel_rfl) (by kernel_rfl) ?_
    refine ED.Y hN hF hC 7 21 #[true, true, true, true, true, true, true, true, false, false, false, false, false, false, false, false, false, false, false, false, false, false, false, false, false, false, false, false, false] (by kernel_rfl) (by kernel_rfl) rfl (fun _ _ _ hS => YO.loadBox hS 0 rfl 89 1 1 (.slice c2 a4.length a2) 17 (by kernel_rfl) (by kernel_rfl) (by kernel_rfl) (by kernel_rfl)) ?_
    refine ED.quick hN hF hC [8, 9, 10, 11] [0, 1, 2, 21] 17 [(0, .pointer (some ⟨a7, 0, none⟩)), (1, .int .i64 a0), (2, .int .i64 a9), (21, .bool (decide (a0 ≥ (a4.length : Int))))] #[true, true, true, true, true, true, true, true, true, true, true, true, false, false, false, false, false, false, false, false, false, false, false, false, false, false, false, false, false] (by kernel_rfl) (by kernel_rfl) ?_
    refine ED.keep [0, 1, 2, 21] [(0, .pointer (some ⟨a7, 0, none⟩)), (1, .int .i64 a0), (2, .int .i64 a9), (21, .bool (decide (a0 ≥ (a4.length : Int))))] (by kernel_rfl) ?_
    refine ED.as' [(0, .pointer (some ⟨a7, 0, none⟩)), (1, .int .i64 a0), (2, .int .i64 a9), (21, .bool (true))] (by simp only [dec_t d8, Bool.not_true, Bool.not_false]) ?_
    refine ED.quick hN hF hC [12, 13, 14, 15, 16, 17, 18, 19, 20, 21, 22, 23, 24, 25, 26, 27, 28] [0, 1, 2, 38] 0 [(0, .pointer (some ⟨a7, 0, none⟩)), (1, .int .i64 a0), (2, .int .i64 a9), (38, .bool (true))] #[true, true, true, true, true, true, true, true, true, true, true, true, true, true, true, true, true, true, true, true, true, true, true, true, true, true, true, true, true] (by kernel_rfl) (by kernel_rfl) ?_
    refine ED.done (by kernel_rfl) ?_
    refine EQ.to ?_
    refine EQ.keep [0, 1, 2, 38] [(0, .pointer (some ⟨a7, 0, none⟩)), (1, .int .i64 a0), (2, .int .i64 a9), (38, .bool (true))] (by kernel_rfl) ?_
    exact fun a ha => ⟨true, ha, (hS.re [2, 2, 2] [] rfl (sub_self)), H⟩
   ·rw [if_neg d8] at H
    obtain ⟨d4, H⟩ := ite_in H
    obtain ⟨e0, H⟩ := ite_in H
    obtain ⟨c7, rfl⟩ := St.deep_some hS 2 rfl d4 e0
    obtain ⟨e1, H⟩ := ite_in H
    obtain ⟨c6, rfl⟩ := St.rd_some hS (Rd.own 1 3 rfl) d4 e1
    have hS := hS.drew
    refine EW.draw (B := B) (id := 1) (ops := Cd19.r.l.l.ops) [Ass.box 105 a7 [.slice (some c6) a3.length a5, .slice (some c7) a4.length a2], Ass.own 3 (Kd.int .i64) (some c6) a5 a3] [] (by kernel_rfl) (by kernel_rfl) ?_
    have hN : Region.noSelect Cd19.r.l.l.ops = true := (by kernel_rfl)
    have hF : freeAll Cd19.r.l.l.ops = true := (by kernel_rfl)
    have hC : Core B [Ass.box 105 a7 [.slice (some c6) a3.length a5, .slice (some c7) a4.length a2], Ass.own 3 (Kd.int .i64) (some c6) a5 a3] [] _ := ⟨_, _, hS⟩
    refine ED.quick hN hF hC [0, 1, 2] [0, 1, 2, 12] 26 [(0, .pointer (some ⟨a7, 0, none⟩)), (1, .int .i64 a0), (2, .int .i64 a9), (12, .bool (decide (a0 < 0)))] #[true, true, true, false, false, false, false, false, false, false, false, false, false, false, false, false, false, false, false, false, false, false, false, false, false, false, false, false, false] (by kernel_rfl) (by kernel_rfl) ?_
    refine ED.keep [0, 1, 2, 12] [(0, .pointer (some ⟨a7, 0, none⟩)), (1, .int .i64 a0), (2, .int .i64 a9), (12, .bool (decide (a0 < 0)))] (by kernel_rfl) ?_
    refine ED.as' [(0, .pointer (some ⟨a7, 0, none⟩)), (1, .int .i64 a0), (2, .int .i64 a9), (12, .bool (false))] (by simp only [dec_f d6, Bool.not_true, Bool.not_false]) ?_
    refine ED.quick hN hF hC [3, 4, 5, 6] [0, 1, 2, 12, 13, 16] 22 [(0, .pointer (some ⟨a7, 0, none⟩)), (1, .int .i64 a0), (2, .int .i64 a9), (12, .bool (false)), (13, .int .i64 a0), (16, .pointer (some ⟨a7, 1, none⟩))] #[true, true, true, true, true, true, true, false, false, false, false, false, false, false, false, false, false, false, false, false, false, false, false, false, false, false, false, false, false] (by kernel_rfl) (by kernel_rfl) ?_
    refine ED.Y hN hF hC 7 21 #[true, true, true, true, true, true, true, true, false, false, false, false, false, false, false, false, false, false, false, false, false, false, false, false, false, false, false, false, false] (by kernel_rfl) (by kernel_rfl) rfl (fun _ _ _ hS => YO.loadBox hS 0 rfl 89 1 1 (.slice (some c7) a4.length a2) 17 (by kernel_rfl) (by kernel_rfl) (by kernel_rfl) (by kernel_rfl)) ?_
    refine ED.quick hN hF hC [8, 9, 10, 11] [0, 1, 2, 21] 17 [(0, .pointer (some ⟨a7, 0, none⟩)), (1, .int .i64 a0), (2, .int .i64 a9), (21, .bool (decide (a0 ≥ (a4.length : Int))))] #[true, true, true, true, true, true, true, true, true, true, true, true, false, false, false, false, false, false, false, false, false, false, false, false, false, false, false, false, false] (by kernel_rfl) (by kernel_rfl) ?_
    refine ED.keep [0, 1, 2, 21] [(0, .pointer (some ⟨a7, 0, none⟩)), (1, .int .i64 a0), (2, .int .i64 a9), (21, .bool (decide (a0 ≥ (a4.length : Int))))] (by kernel_rfl) ?_
    refine ED.as' [(0, .pointer (some ⟨a7, 0, none⟩)), (1, .int .i64 a0), (2, .int .i64 a9), (21, .bool (false))] (by simp only [dec_f d8, Bool.not_true, Bool.not_false]) ?_
    refine ED.quick hN hF hC [12, 13, 14, 16, 20, 21, 22, 24] [0, 1, 2, 21, 24, 26, 32, 34] 9 [(0, .pointer (some ⟨a7, 0, none⟩)), (1, .int .i64 a0), (2, .int .i64 a9), (21, .bool (false)), (24, .pointer (some ⟨a7, 1, none⟩)), (26, .int .i64 a0), (32, .pointer (some ⟨a7, 0, none⟩)), (34, .int .i64 a0)] #[true, true, true, true, true, true, true, true, true, true, true, true, true, true, true, false, true, false, false, false, true, true, true, false, true, false, false, false, false] (by kernel_rfl) (by kernel_rfl) ?_
    refine ED.Y hN hF hC 15 8 #[true, true, true, true, true, true, true, true, true, true, true, true, true, true, true, true, true, false, false, false, true, true, true, false, true, false, false, false, false] (by kernel_rfl) (by kernel_rfl) rfl (fun _ _ _ hS => YO.loadBox hS 0 rfl 89 1 1 (.slice (some c7) a4.length a2) 25 (by kernel_rfl) (by kernel_rfl) (by kernel_rfl) (by kernel_rfl)) ?_
    refine ED.Y hN hF hC 17 7 #[true, true, true, true, true, true, true, true, true, true, true, true, true, true, true, true, true, true, false, false, true, true, true, false, true, false, false, false, false] (by kernel_rfl) (by kernel_rfl) rfl (fun _ _ _ hS => YO.idx 89 1 c7 a4.length a2 .i64 a0 27 (by kernel_rfl) (by kernel_rfl) (by kernel_rfl) (by kernel_rfl) d4 e0) ?_
    refine ED.Y hN hF hC 23 6 #[true, true, true, true, true, true, true, true, true, true, true, true, true, true, true, true, true, true, false, false, true, true, true, true, true, false, false, false, false] (by kernel_rfl) (by kernel_rfl) rfl (fun _ _ _ hS => YO.loadBox hS 0 rfl 66 0 1 (.slice (some c6) a3.length a5) 33 (by kernel_rfl) (by kernel_rfl) (by kernel_rfl) (by kernel_rfl)) ?_
    refine ED.Y hN hF hC 25 5 #[true, true, true, true, true, true, true, true, true, true, true, true, true, true, true, true, true, true, false, false, true, true, true, true, true, true, false, false, false] (by kernel_rfl) (by kernel_rfl) rfl (fun _ _ _ hS => YO.idx 66 1 c6 a3.length a5 .i64 a0 35 (by kernel_rfl) (by kernel_rfl) (by kernel_rfl) (by kernel_rfl) d4 e1) ?_
    refine ED.Y hN hF hC 26 4 #[true, true, true, true, true, true, true, true, true, true, true, true, true, true, true, true, true, true, false, false, true, true, true, true, true, true, true, false, false] (by kernel_rfl) (by kernel_rfl) rfl (fun _ _ _ hS => YO.loadEl hS (Kd.int .i64) c6 a5 a3 (Rd.own 1 3 rfl) 0 (encI .i64) encI_of a0 d4 e1 3 1 0 1 rfl (.int .i64 (a3.getD a0.toNat 0)) 36 (by kernel_rfl) (by kernel_rfl) (by kernel_rfl) (by kernel_rfl)) ?_
    refine ED.one 18 3 #[true, true, true, true, true, true, true, true, true, true, true, true, true, true, true, true, true, true, true, false, true, true, true, true, true, true, true, false, false] (by kernel_rfl) (by kernel_rfl) (by kernel_rfl) (EO.openEl hS 2 c7 rfl a0 d4 e0 (fun e6 g4 => Ass.box 105 a7 [.slice (some c6) a3.length a5, .slice (some c7) a4.length a2] :: Ass.own 3 (Kd.int .i64) (some c6) a5 a3 :: Ass.holed 94 96 kS96 (some c7) a2 a4 a0.toNat (e6, (a4.getD a0.toNat []).length, g4) :: os) 94 28 (by kernel_rfl) (by kernel_rfl) (by kernel_rfl) (by kernel_rfl) (fun _ _ => rfl) ?_)
    intro e6 g4 hS
    have hC : Core B [Ass.box 105 a7 [.slice (some c6) a3.length a5, .slice (some c7) a4.length a2], Ass.own 3 (Kd.int .i64) (some c6) a5 a3] [] _ := ⟨_, _, hS.re [2, 2] [] rfl sub_self⟩
    refine ⟨hC, ?_⟩
    refine ED.quick hN hF hC [19, 27, 28] [0, 1, 2, 38] 0 [(0, .pointer (some ⟨a7, 0, none⟩)), (1, .int .i64 a0), (2, .int .i64 a9), (38, .bool (decide (((a4.getD a0.toNat []).length : Int) ≥ (a3.getD a0.toNat 0))))] #[true, true, true, true, true, true, true, true, true, true, true, true, true, true, true, true, true, true, true, true, true, true, true, true, true, true, true, true, true] (by kernel_rfl) (by kernel_rfl) ?_
    refine ED.done (by kernel_rfl) ?_
    refine EQ.to ?_
    have hS := St.as (os' := Ass.box 105 a7 [.slice (some c6) a3.length a5, .slice (some c7) a4.length a2] :: Ass.own 3 (Kd.int .i64) (some c6) a5 a3 :: Ass.deep 94 96 kS96 (some c7) a2 a4 :: os) (St.close hS 0 2 rfl rfl rfl a4 (set_getD _ _)) rfl
    refine EQ.keep [0, 1, 2, 38] [(0, .pointer (some ⟨a7, 0, none⟩)), (1, .int .i64 a0), (2, .int .i64 a9), (38, .bool (decide (((a4.getD a0.toNat []).length : Int) ≥ (a3.getD a0.toNat 0))))] (by kernel_rfl) ?_
    exact fun a ha => ⟨decide (((a4.getD a0.toNat []).length : Int) ≥ (a3.getD a0.toNat 0)), ha, (hS.re [2, 2, 2] [] rfl (sub_self)), H⟩
 ·obtain ⟨d5, ha, hS, H⟩ := hI
  rw [j2] at H
  (try dsimp only at H)
  refine EW.at ?_ a ha
  clear ha a
  refine EW.condP' (o := (.tmp 38)) (x := Cd19.r.l.r.l) (y := Cd19.r.l.r.r) (d5) (by kernel_rfl) (by kernel_rfl) (fun e2 => ?_) (fun e2 => ?_)
  ·rw [if_pos e2] at H
   refine EW.seq (x := Cd19.r.l.r.l.l) (y := Cd19.r.l.r.l.r) (by kernel_rfl) ?_
   refine EW.region (id := 2) (ops := Cd19.r.l.r.l.l.ops) (by kernel_rfl) ?_
   refine EL.quick 2 [6, 7] [(6, .int .i32 0), (7, .bool (false))] (by kernel_rfl) ?_
   refine EL.done (by kernel_rfl) ?_
   refine EQ.code ?_
   refine EW.ret (by kernel_rfl) ?_
   refine EQ.ret ?_
   simp only [Option.some.injEq, Prod.mk.injEq] at H
   obtain ⟨rfl, rfl, rfl⟩ := H
   exact EQ.leave (.tuple #[.int .i32 0, .bool (false)]) (by kernel_rfl) ⟨_, rfl, c2, a2, rfl, (hS.re [2, 2, 2] [] rfl (sub_self))⟩
  ·rw [if_neg e2] at H
   refine EW.skip (by kernel_rfl) ?_
   refine EQ.code ?_
   refine EW.seq (x := Cd19.r.r.l) (y := Cd19.r.r.r) (by kernel_rfl) ?_
   refine EW.region (id := 3) (ops := Cd19.r.r.l.ops) (by kernel_rfl) ?_
   refine EL.quick 4 [0, 1, 2, 40, 43] [(0, .pointer (some ⟨a7, 0, none⟩)), (1, .int .i64 a0), (2, .int .i64 a9), (40, .int .i64 a0), (43, .pointer (some ⟨a7, 1, none⟩))] (by kernel_rfl) ?_
   refine EL.of (EO.Y (YO.loadBox hS 0 rfl 89 1 1 (.slice c2 a4.length a2) 44 (by kernel_rfl) (by kernel_rfl) (by kernel_rfl) (by kernel_rfl)) ?_)
   refine EL.quick 1 [0, 1, 2, 40, 44, 45] [(0, .pointer (some ⟨a7, 0, none⟩)), (1, .int .i64 a0), (2, .int .i64 a9), (40, .int .i64 a0), (44, .slice c2 a4.length a2), (45, .int .i64 a0)] (by kernel_rfl) ?_
   obtain ⟨b3, H⟩ := ite_in H
   obtain ⟨b9, H⟩ := ite_in H
   obtain ⟨a1, rfl⟩ := St.deep_some hS 2 rfl b3 b9
   refine EL.of (EO.Y (YO.idx 89 1 a1 a4.length a2 .i64 a0 46 (by kernel_rfl) (by kernel_rfl) (by kernel_rfl) (by kernel_rfl) b3 b9) ?_)
   refine EL.of (EO.openEl hS 2 a1 rfl a0 b3 b9 (fun b5 b6 => Ass.box 105 a7 [.slice a6 a3.length a5, .slice (some a1) a4.length a2] :: Ass.own 3 (Kd.int .i64) a6 a5 a3 :: Ass.holed 94 96 kS96 (some a1) a2 a4 a0.toNat (b5, (a4.getD a0.toNat []).length, b6) :: os) 94 47 (by kernel_rfl) (by kernel_rfl) (by kernel_rfl) (by kernel_rfl) (fun _ _ => rfl) ?_)
   intro b5 b6 hS
   refine EL.quick 1 [0, 1, 2, 40, 48] [(0, .pointer (some ⟨a7, 0, none⟩)), (1, .int .i64 a0), (2, .int .i64 a9), (40, .int .i64 a0), (48, .int .i64 ((a4.getD a0.toNat []).length : Int))] (by kernel_rfl) ?_
   obtain ⟨b1, j3, j1, H⟩ := b2_out H
   refine EL.of (EO.callD 47 [.int .i64 a0, .int .i64 ((a4.getD a0.toNat []).length : Int)] _ 49 (by kernel_rfl) (by kernel_rfl) (by kernel_rfl) (confidantref9_Of.calls j1 hS) ?_)
   rintro v w ⟨rfl, hS⟩
   refine EL.quick 5 [0, 1, 2, 8] [(0, .pointer (some ⟨a7, 0, none⟩)), (1, .int .i64 a0), (2, .int .i64 a9), (8, .int .i32 b1)] (by kernel_rfl) ?_
   refine EL.done (by kernel_rfl) ?_
   refine EQ.code ?_
   refine EW.seq (x := Cd19.r.r.r.l) (y := Cd19.r.r.r.r) (by kernel_rfl) ?_
   obtain ⟨a8, c1, H⟩ := lt_out H
   obtain ⟨c3, H⟩ := ite_in H
   obtain ⟨b7, c4, H⟩ := lt_out H
   obtain ⟨b0, b4, H⟩ := lt_out H
   refine EW.meet (id := 4) (ops := Cd19.r.r.r.l.ops) (fun a w => ∃ e7 : Option Addr, ∃ g5 : Nat, Sat 70 [(8, .int .i32 b1)] a ∧ St B w (Ass.own 96 kS96 e7 g5 a8 :: Ass.box 105 a7 [.slice a6 a3.length a5, .slice (some a1) b0.length a2] :: Ass.own 3 (Kd.int .i64) a6 a5 a3 :: Ass.deep 94 96 kS96 (some a1) a2 b0 :: os) (rs)) (by kernel_rfl) ?_ (fun a w hI => ?_)
   ·have hS := hS.drew
    refine EW.draw (B := B) (id := 4) (ops := Cd19.r.r.r.l.ops) [Ass.own 3 (Kd.int .i64) a6 a5 a3] [] (by kernel_rfl) (by kernel_rfl) ?_
    have hN : Region.noSelect Cd19.r.r.r.l.ops = true := (by kernel_rfl)
    have hF : freeAll Cd19.r.r.r.l.ops = true := (by kernel_rfl)
    have hC : Core B [Ass.own 3 (Kd.int .i64) a6 a5 a3] [] _ := ⟨_, _, hS.re [2] [] rfl sub_self⟩
    refine ED.quick hN hF hC [0, 1, 2, 4, 5, 6, 7, 9, 12, 13] [8, 54, 56, 59, 61, 65] 8 [(8, .int .i32 b1), (54, .pointer (some ⟨a7, 1, none⟩)), (56, .int .i64 a0), (59, .pointer (some ⟨a7, 1, none⟩)), (61, .int .i64 a0), (65, .agg #[.int .i64 a9, .int .i64 0, .int .i32 0, .int .i64 0])] #[true, true, true, false, true, true, true, true, false, true, false, false, true, true, false, false, false, false] (by kernel_rfl) (by kernel_rfl) ?_
    refine ED.many 3 [8, 14] 7 (by kernel_rfl) (by kernel_rfl) (Each.cons ?_ (Each.cons ?_ (Each.cons ?_ Each.nil)))
    ·refine EO.Y (YO.loadBox hS 1 rfl 89 1 1 (.slice (some a1) a4.length a2) 55 (by kernel_rfl) (by kernel_rfl) (by kernel_rfl) (by kernel_rfl)) ?_
     have hC : Core B [Ass.own 3 (Kd.int .i64) a6 a5 a3] [] _ := ⟨_, _, hS.re [2] [] rfl sub_self⟩
     refine ⟨hC, ?_⟩
     refine ED.at' #[true, true, true, true, true, true, true, true, false, true, false, false, true, true, false, false, false, false] (by kernel_rfl) ?_
     refine ED.two 8 14 6 (by kernel_rfl) (by kernel_rfl) ?_ ?_
     ·refine EO.Y (YO.loadBox hS 1 rfl 89 1 1 (.slice (some a1) a4.length a2) 60 (by kernel_rfl) (by kernel_rfl) (by kernel_rfl) (by kernel_rfl)) ?_
      have hC : Core B [Ass.own 3 (Kd.int .i64) a6 a5 a3] [] _ := ⟨_, _, hS.re [2] [] rfl sub_self⟩
      refine ⟨hC, ?_⟩
      refine ED.at' #[true, true, true, true, true, true, true, true, true, true, false, false, true, true, false, false, false, false] (by kernel_rfl) ?_
      refine ED.Y hN hF hC 10 5 #[true, true, true, true, true, true, true, true, true, true, true, false, true, true, false, false, false, false] (by kernel_rfl) (by kernel_rfl) rfl (fun _ _ _ hS => YO.idx 89 1 a1 a4.length a2 .i64 a0 62 (by kernel_rfl) (by kernel_rfl) (by kernel_rfl) (by kernel_rfl) b3 b9) ?_
      refine ED.two 11 14 4 (by kernel_rfl) (by kernel_rfl) ?_ ?_
      ·refine EO.Y (YO.loadHole hS 3 a1 (j := a0) rfl b3 94 63 (by kernel_rfl) (by kernel_rfl) (by kernel_rfl) (by kernel_rfl)) ?_
       have hC : Core B [Ass.own 3 (Kd.int .i64) a6 a5 a3] [] _ := ⟨_, _, hS.re [2] [] rfl sub_self⟩
       refine ⟨hC, ?_⟩
       refine ED.at' #[true, true, true, true, true, true, true, true, true, true, true, true, true, true, false, false, false, false] (by kernel_rfl) ?_
       refine ED.one 14 3 #[true, true, true, true, true, true, true, true, true, true, true, true, true, true, true, false, false, false] (by kernel_rfl) (by kernel_rfl) (by kernel_rfl) (EO.lit hS kS96 96 94 1 #[(0, .agg #[.int .i64 a9, .int .i64 0, .int .i32 0, .int .i64 0])] [.int .i64 a9, .int .i64 0, .int .i32 0, .int .i64 0] a8 66 (by kernel_rfl) (by kernel_rfl) (by kernel_rfl) (fun _ => (by kernel_rfl)) (by rw [c1]; rfl) (by kernel_rfl) (fun w G hr => (by rw [c1]; exact ⟨[.int .i64 a9, .int .i64 0, .int .i32 0, .int .i64 0], [], rfl, ⟨[.int .i64 a9], [.int .i64 0, .int .i32 0, .int .i64 0], rfl, rfl, ⟨[.int .i64 0], [.int .i32 0, .int .i64 0], rfl, rfl, ⟨[.int .i32 0], [.int .i64 0], rfl, rfl, ⟨[.int .i64 0], [], rfl, rfl, rfl⟩⟩⟩⟩, rfl⟩)) ?_)
       intro c8 w hS
       have hC : Core B [Ass.own 3 (Kd.int .i64) a6 a5 a3] [] _ := ⟨_, _, hS.re [3] [] rfl sub_self⟩
       refine ⟨hC, ?_⟩
       refine ED.one 15 2 #[true, true, true, true, true, true, true, true, true, true, true, true, true, true, true, true, false, false] (by kernel_rfl) (by kernel_rfl) (by kernel_rfl) (EO.append hS 94 94 96 32 1 kS96 b5 b6 (a4.getD a0.toNat []) rfl (some ⟨c8, 0, none⟩) 1 a8 (Rd.own 0 96 rfl) b7 c4 (fun e8 g6 => Ass.own 96 kS96 (some ⟨c8, 0, none⟩) 1 a8 :: Ass.own 96 kS96 e8 g6 b7 :: Ass.box 105 a7 [.slice a6 a3.length a5, .slice (some a1) a4.length a2] :: Ass.own 3 (Kd.int .i64) a6 a5 a3 :: Ass.holed 94 96 kS96 (some a1) a2 a4 a0.toNat (b5, (a4.getD a0.toNat []).length, b6) :: os) 67 (by kernel_rfl) (by kernel_rfl) (by kernel_rfl) (by kernel_rfl) c3 (fun _ _ => rfl) ?_)
       intro e8 g6 w hS
       have hC : Core B [Ass.own 3 (Kd.int .i64) a6 a5 a3] [] _ := ⟨_, _, hS.re [3] [] rfl sub_self⟩
       refine ⟨hC, ?_⟩
       refine ED.Y hN hF hC 16 1 #[true, true, true, true, true, true, true, true, true, true, true, true, true, true, true, true, true, false] (by kernel_rfl) (by kernel_rfl) rfl (fun _ _ _ hS => YO.idx 89 1 a1 a4.length a2 .i64 a0 68 (by kernel_rfl) (by kernel_rfl) (by kernel_rfl) (by kernel_rfl) b3 b9) ?_
       refine ED.one 17 0 #[true, true, true, true, true, true, true, true, true, true, true, true, true, true, true, true, true, true] (by kernel_rfl) (by kernel_rfl) (by kernel_rfl) (EO.closeEl hS 1 3 a1 a0 rfl rfl b3 b0 b4 (Ass.own 96 kS96 (some ⟨c8, 0, none⟩) 1 a8 :: Ass.box 105 a7 [.slice a6 a3.length a5, .slice (some a1) a4.length a2] :: Ass.own 3 (Kd.int .i64) a6 a5 a3 :: Ass.deep 94 96 kS96 (some a1) a2 b0 :: os) 94 (by kernel_rfl) (by kernel_rfl) (by kernel_rfl) (by kernel_rfl) rfl ?_)
       intro w hS
       have hS : St B w (Ass.own 96 kS96 (some ⟨c8, 0, none⟩) 1 a8 :: Ass.box 105 a7 [.slice a6 a3.length a5, .slice (some a1) b0.length a2] :: Ass.own 3 (Kd.int .i64) a6 a5 a3 :: Ass.deep 94 96 kS96 (some a1) a2 b0 :: os) (rs) := by simpa only [b4, List.length_set] using hS
       have hC : Core B [Ass.own 3 (Kd.int .i64) a6 a5 a3] [] _ := ⟨_, _, hS.re [2] [] rfl sub_self⟩
       refine ⟨hC, ?_⟩
       refine ED.keep [8, 54, 55, 56, 59, 60, 61, 62, 65, 66, 68] [(8, .int .i32 b1), (54, .pointer (some ⟨a7, 1, none⟩)), (55, .slice (some a1) a4.length a2), (56, .int .i64 a0), (59, .pointer (some ⟨a7, 1, none⟩)), (60, .slice (some a1) a4.length a2), (61, .int .i64 a0), (62, .pointer (some ((a1.add (a0.toNat * 1)).add 0))), (65, .agg #[.int .i64 a9, .int .i64 0, .int .i32 0, .int .i64 0]), (66, .slice (some ⟨c8, 0, none⟩) a8.length 1), (68, .pointer (some ((a1.add (a0.toNat * 1)).add 0)))] (by kernel_rfl) ?_
       refine ED.as' [(8, .int .i32 b1), (54, .pointer (some ⟨a7, 1, none⟩)), (55, .slice (some a1) b0.length a2), (56, .int .i64 a0), (59, .pointer (some ⟨a7, 1, none⟩)), (60, .slice (some a1) b0.length a2), (61, .int .i64 a0), (62, .pointer (some ((a1.add (a0.toNat * 1)).add 0))), (65, .agg #[.int .i64 a9, .int .i64 0, .int .i32 0, .int .i64 0]), (66, .slice (some ⟨c8, 0, none⟩) a8.length 1), (68, .pointer (some ((a1.add (a0.toNat * 1)).add 0)))] (by simp only [b4, List.length_set]) ?_
       refine ED.done (by kernel_rfl) ?_
       refine EQ.to ?_
       refine EQ.keep [8] [(8, .int .i32 b1)] (by kernel_rfl) ?_
       exact fun a ha => ⟨(some ⟨c8, 0, none⟩), 1, ha, (hS.re [3, 3, 3, 3] [] rfl (sub_self))⟩
      ·refine EO.lit hS kS96 96 94 1 #[(0, .agg #[.int .i64 a9, .int .i64 0, .int .i32 0, .int .i64 0])] [.int .i64 a9, .int .i64 0, .int .i32 0, .int .i64 0] a8 66 (by kernel_rfl) (by kernel_rfl) (by kernel_rfl) (fun _ => (by kernel_rfl)) (by rw [c1]; rfl) (by kernel_rfl) (fun w G hr => (by rw [c1]; exact ⟨[.int .i64 a9, .int .i64 0, .int .i32 0, .int .i64 0], [], rfl, ⟨[.int .i64 a9], [.int .i64 0, .int .i32 0, .int .i64 0], rfl, rfl, ⟨[.int .i64 0], [.int .i32 0, .int .i64 0], rfl, rfl, ⟨[.int .i32 0], [.int .i64 0], rfl, rfl, ⟨[.int .i64 0], [], rfl, rfl, rfl⟩⟩⟩⟩, rfl⟩)) ?_
       intro c9 w hS
       have hC : Core B [Ass.own 3 (Kd.int .i64) a6 a5 a3] [] _ := ⟨_, _, hS.re [3] [] rfl sub_self⟩
       refine ⟨hC, ?_⟩
       refine ED.at' #[true, true, true, true, true, true, true, true, true, true, true, false, true, true, true, false, false, false] (by kernel_rfl) ?_
       refine ED.one 11 3 #[true, true, true, true, true, true, true, true, true, true, true, true, true, true, true, false, false, false] (by kernel_rfl) (by kernel_rfl) (by kernel_rfl) (EO.Y (YO.loadHole hS 4 a1 (j := a0) rfl b3 94 63 (by kernel_rfl) (by kernel_rfl) (by kernel_rfl) (by kernel_rfl)) ?_)
       have hC : Core B [Ass.own 3 (Kd.int .i64) a6 a5 a3] [] _ := ⟨_, _, hS.re [3] [] rfl sub_self⟩
       refine ⟨hC, ?_⟩
       refine ED.one 15 2 #[true, true, true, true, true, true, true, true, true, true, true, true, true, true, true, true, false, false] (by kernel_rfl) (by kernel_rfl) (by kernel_rfl) (EO.append hS 94 94 96 32 1 kS96 b5 b6 (a4.getD a0.toNat []) rfl (some ⟨c9, 0, none⟩) 1 a8 (Rd.own 0 96 rfl) b7 c4 (fun e9 g7 => Ass.own 96 kS96 (some ⟨c9, 0, none⟩) 1 a8 :: Ass.own 96 kS96 e9 g7 b7 :: Ass.box 105 a7 [.slice a6 a3.length a5, .slice (some a1) a4.length a2] :: Ass.own 3 (Kd.int .i64) a6 a5 a3 :: Ass.holed 94 96 kS96 (some a1) a2 a4 a0.toNat (b5, (a4.getD a0.toNat []).length, b6) :: os) 67 (by kernel_rfl) (by kernel_rfl) (by kernel_rfl) (by kernel_rfl) c3 (fun _ _ => rfl) ?_)
       intro e9 g7 w hS
       have hC : Core B [Ass.own 3 (Kd.int .i64) a6 a5 a3] [] _ := ⟨_, _, hS.re [3] [] rfl sub_self⟩
       refine ⟨hC, ?_⟩
       refine ED.Y hN hF hC 16 1 #[true, true, true, true, true, true, true, true, true, true, true, true, true, true, true, true, true, false] (by kernel_rfl) (by kernel_rfl) rfl (fun _ _ _ hS => YO.idx 89 1 a1 a4.length a2 .i64 a0 68 (by kernel_rfl) (by kernel_rfl) (by kernel_rfl) (by kernel_rfl) b3 b9) ?_
       refine ED.one 17 0 #[true, true, true, true, true, true, true, true, true, true, true, true, true, true, true, true, true, true] (by kernel_rfl) (by kernel_rfl) (by kernel_rfl) (EO.closeEl hS 1 3 a1 a0 rfl rfl b3 b0 b4 (Ass.own 96 kS96 (some ⟨c9, 0, none⟩) 1 a8 :: Ass.box 105 a7 [.slice a6 a3.length a5, .slice (some a1) a4.length a2] :: Ass.own 3 (Kd.int .i64) a6 a5 a3 :: Ass.deep 94 96 kS96 (some a1) a2 b0 :: os) 94 (by kernel_rfl) (by kernel_rfl) (by kernel_rfl) (by kernel_rfl) rfl ?_)
       intro w hS
       have hS : St B w (Ass.own 96 kS96 (some ⟨c9, 0, none⟩) 1 a8 :: Ass.box 105 a7 [.slice a6 a3.length a5, .slice (some a1) b0.length a2] :: Ass.own 3 (Kd.int .i64) a6 a5 a3 :: Ass.deep 94 96 kS96 (some a1) a2 b0 :: os) (rs) := by simpa only [b4, List.length_set] using hS
       have hC : Core B [Ass.own 3 (Kd.int .i64) a6 a5 a3] [] _ := ⟨_, _, hS.re [2] [] rfl sub_self⟩
       refine ⟨hC, ?_⟩
       refine ED.keep [8, 54, 55, 56, 59, 60, 61, 62, 65, 66, 68] [(8, .int .i32 b1), (54, .pointer (some ⟨a7, 1, none⟩)), (55, .slice (some a1) a4.length a2), (56, .int .i64 a0), (59, .pointer (some ⟨a7, 1, none⟩)), (60, .slice (some a1) a4.length a2), (61, .int .i64 a0), (62, .pointer (some ((a1.add (a0.toNat * 1)).add 0))), (65, .agg #[.int .i64 a9, .int .i64 0, .int .i32 0, .int .i64 0]), (66, .slice (some ⟨c9, 0, none⟩) a8.length 1), (68, .pointer (some ((a1.add (a0.toNat * 1)).add 0)))] (by kernel_rfl) ?_
       refine ED.as' [(8, .int .i32 b1), (54, .pointer (some ⟨a7, 1, none⟩)), (55, .slice (some a1) b0.length a2), (56, .int .i64 a0), (59, .pointer (some ⟨a7, 1, none⟩)), (60, .slice (some a1) b0.length a2), (61, .int .i64 a0), (62, .pointer (some ((a1.add (a0.toNat * 1)).add 0))), (65, .agg #[.int .i64 a9, .int .i64 0, .int .i32 0, .int .i64 0]), (66, .slice (some ⟨c9, 0, none⟩) a8.length 1), (68, .pointer (some ((a1.add (a0.toNat * 1)).add 0)))] (by simp only [b4, List.length_set]) ?_
       refine ED.done (by kernel_rfl) ?_
       refine EQ.to ?_
       refine EQ.keep [8] [(8, .int .i32 b1)] (by kernel_rfl) ?_
       exact fun a ha => ⟨(some ⟨c9, 0, none⟩), 1, ha, (hS.re [3, 3, 3, 3] [] rfl (sub_self))⟩
     ·refine EO.lit hS kS96 96 94 1 #[(0, .agg #[.int .i64 a9, .int .i64 0, .int .i32 0, .int .i64 0])] [.int .i64 a9, .int .i64 0, .int .i32 0, .int .i64 0] a8 66 (by kernel_rfl) (by kernel_rfl) (by kernel_rfl) (fun _ => (by kernel_rfl)) (by rw [c1]; rfl) (by kernel_rfl) (fun w G hr => (by rw [c1]; exact ⟨[.int .i64 a9, .int .i64 0, .int .i32 0, .int .i64 0], [], rfl, ⟨[.int .i64 a9], [.int .i64 0, .int .i32 0, .int .i64 0], rfl, rfl, ⟨[.int .i64 0], [.int .i32 0, .int .i64 0], rfl, rfl, ⟨[.int .i32 0], [.int .i64 0], rfl, rfl, ⟨[.int .i64 0], [], rfl, rfl, rfl⟩⟩⟩⟩, rfl⟩)) ?_
      intro d0 w hS
      have hC : Core B [Ass.own 3 (Kd.int .i64) a6 a5 a3] [] _ := ⟨_, _, hS.re [3] [] rfl sub_self⟩
      refine ⟨hC, ?_⟩
      refine ED.at' #[true, true, true, true, true, true, true, true, false, true, false, false, true, true, true, false, false, false] (by kernel_rfl) ?_
      refine ED.one 8 5 #[true, true, true, true, true, true, true, true, true, true, false, false, true, true, true, false, false, false] (by kernel_rfl) (by kernel_rfl) (by kernel_rfl) (EO.Y (YO.loadBox hS 2 rfl 89 1 1 (.slice (some a1) a4.length a2) 60 (by kernel_rfl) (by kernel_rfl) (by kernel_rfl) (by kernel_rfl)) ?_)
      have hC : Core B [Ass.own 3 (Kd.int .i64) a6 a5 a3] [] _ := ⟨_, _, hS.re [3] [] rfl sub_self⟩
      refine ⟨hC, ?_⟩
      refine ED.Y hN hF hC 10 4 #[true, true, true, true, true, true, true, true, true, true, true, false, true, true, true, false, false, false] (by kernel_rfl) (by kernel_rfl) rfl (fun _ _ _ hS => YO.idx 89 1 a1 a4.length a2 .i64 a0 62 (by kernel_rfl) (by kernel_rfl) (by kernel_rfl) (by kernel_rfl) b3 b9) ?_
      refine ED.one 11 3 #[true, true, true, true, true, true, true, true, true, true, true, true, true, true, true, false, false, false] (by kernel_rfl) (by kernel_rfl) (by kernel_rfl) (EO.Y (YO.loadHole hS 4 a1 (j := a0) rfl b3 94 63 (by kernel_rfl) (by kernel_rfl) (by kernel_rfl) (by kernel_rfl)) ?_)
      have hC : Core B [Ass.own 3 (Kd.int .i64) a6 a5 a3] [] _ := ⟨_, _, hS.re [3] [] rfl sub_self⟩
      refine ⟨hC, ?_⟩
      refine ED.one 15 2 #[true, true, true, true, true, true, true, true, true, true, true, true, true, true, true, true, false, false] (by kernel_rfl) (by kernel_rfl) (by kernel_rfl) (EO.append hS 94 94 96 32 1 kS96 b5 b6 (a4.getD a0.toNat []) rfl (some ⟨d0, 0, none⟩) 1 a8 (Rd.own 0 96 rfl) b7 c4 (fun f0 g8 => Ass.own 96 kS96 (some ⟨d0, 0, none⟩) 1 a8 :: Ass.own 96 kS96 f0 g8 b7 :: Ass.box 105 a7 [.slice a6 a3.length a5, .slice (some a1) a4.length a2] :: Ass.own 3 (Kd.int .i64) a6 a5 a3 :: Ass.holed 94 96 kS96 (some a1) a2 a4 a0.toNat (b5, (a4.getD a0.toNat []).length, b6) :: os) 67 (by kernel_rfl) (by kernel_rfl) (by kernel_rfl) (by kernel_rfl) c3 (fun _ _ => rfl) ?_)
      intro f0 g8 w hS
      have hC : Core B [Ass.own 3 (Kd.int .i64) a6 a5 a3] [] _ := ⟨_, _, hS.re [3] [] rfl sub_self⟩
      refine ⟨hC, ?_⟩
      refine ED.Y hN hF hC 16 1 #[true, true, true, true, true, true, true, true, true, true, true, true, true, true, true, true, true, false] (by kernel_rfl) (by kernel_rfl) rfl (fun _ _ _ hS => YO.idx 89 1 a1 a4.length a2 .i64 a0 68 (by kernel_rfl) (by kernel_rfl) (by kernel_rfl) (by kernel_rfl) b3 b9) ?_
      refine ED.one 17 0 #[true, true, true, true, true, true, true, true, true, true, true, true, true, true, true, true, true, true] (by kernel_rfl) (by kernel_rfl) (by kernel_rfl) (EO.closeEl hS 1 3 a1 a0 rfl rfl b3 b0 b4 (Ass.own 96 kS96 (some ⟨d0, 0, none⟩) 1 a8 :: Ass.box 105 a7 [.slice a6 a3.length a5, .slice (some a1) a4.length a2] :: Ass.own 3 (Kd.int .i64) a6 a5 a3 :: Ass.deep 94 96 kS96 (some a1) a2 b0 :: os) 94 (by kernel_rfl) (by kernel_rfl) (by kernel_rfl) (by kernel_rfl) rfl ?_)
      intro w hS
      have hS : St B w (Ass.own 96 kS96 (some ⟨d0, 0, none⟩) 1 a8 :: Ass.box 105 a7 [.slice a6 a3.length a5, .slice (some a1) b0.length a2] :: Ass.own 3 (Kd.int .i64) a6 a5 a3 :: Ass.deep 94 96 kS96 (some a1) a2 b0 :: os) (rs) := by simpa only [b4, List.length_set] using hS
      have hC : Core B [Ass.own 3 (Kd.int .i64) a6 a5 a3] [] _ := ⟨_, _, hS.re [2] [] rfl sub_self⟩
      refine ⟨hC, ?_⟩
      refine ED.keep [8, 54, 55, 56, 59, 60, 61, 62, 65, 66, 68] [(8, .int .i32 b1), (54, .pointer (some ⟨a7, 1, none⟩)), (55, .slice (some a1) a4.length a2), (56, .int .i64 a0), (59, .pointer (some ⟨a7, 1, none⟩)), (60, .slice (some a1) a4.length a2), (61, .int .i64 a0), (62, .pointer (some ((a1.add (a0.toNat * 1)).add 0))), (65, .agg #[.int .i64 a9, .int .i64 0, .int .i32 0, .int .i64 0]), (66, .slice (some ⟨d0, 0, none⟩) a8.length 1), (68, .pointer (some ((a1.add (a0.toNat * 1)).add 0)))] (by kernel_rfl) ?_
      refine ED.as' [(8, .int .i32 b1), (54, .pointer (some ⟨a7, 1, none⟩)), (55, .slice (some a1) b0.length a2), (56, .int .i64 a0), (59, .pointer (some ⟨a7, 1, none⟩)), (60, .slice (some a1) b0.length a2), (61, .int .i64 a0), (62, .pointer (some ((a1.add (a0.toNat * 1)).add 0))), (65, .agg #[.int .i64 a9, .int .i64 0, .int .i32 0, .int .i64 0]), (66, .slice (some ⟨d0, 0, none⟩) a8.length 1), (68, .pointer (some ((a1.add (a0.toNat * 1)).add 0)))] (by simp only [b4, List.length_set]) ?_
      refine ED.done (by kernel_rfl) ?_
      refine EQ.to ?_
      refine EQ.keep [8] [(8, .int .i32 b1)] (by kernel_rfl) ?_
      exact fun a ha => ⟨(some ⟨d0, 0, none⟩), 1, ha, (hS.re [3, 3, 3, 3] [] rfl (sub_self))⟩
    ·refine EO.Y (YO.loadBox hS 1 rfl 89 1 1 (.slice (some a1) a4.length a2) 60 (by kernel_rfl) (by kernel_rfl) (by kernel_rfl) (by kernel_rfl)) ?_
     have hC : Core B [Ass.own 3 (Kd.int .i64) a6 a5 a3] [] _ := ⟨_, _, hS.re [2] [] rfl sub_self⟩
     refine ⟨hC, ?_⟩
     refine ED.at' #[true, true, true, false, true, true, true, true, true, true, false, false, true, true, false, false, false, false] (by kernel_rfl) ?_
     refine ED.Y hN hF hC 10 6 #[true, true, true, false, true, true, true, true, true, true, true, false, true, true, false, false, false, false] (by kernel_rfl) (by kernel_rfl) rfl (fun _ _ _ hS => YO.idx 89 1 a1 a4.length a2 .i64 a0 62 (by kernel_rfl) (by kernel_rfl) (by kernel_rfl) (by kernel_rfl) b3 b9) ?_
     refine ED.many 3 [11, 14] 5 (by kernel_rfl) (by kernel_rfl) (Each.cons ?_ (Each.cons ?_ (Each.cons ?_ Each.nil)))
     ·refine EO.Y (YO.loadBox hS 1 rfl 89 1 1 (.slice (some a1) a4.length a2) 55 (by kernel_rfl) (by kernel_rfl) (by kernel_rfl) (by kernel_rfl)) ?_
      have hC : Core B [Ass.own 3 (Kd.int .i64) a6 a5 a3] [] _ := ⟨_, _, hS.re [2] [] rfl sub_self⟩
      refine ⟨hC, ?_⟩
      refine ED.at' #[true, true, true, true, true, true, true, true, true, true, true, false, true, true, false, false, false, false] (by kernel_rfl) ?_
      refine ED.two 11 14 4 (by kernel_rfl) (by kernel_rfl) ?_ ?_
      ·refine EO.Y (YO.loadHole hS 3 a1 (j := a0) rfl b3 94 63 (by kernel_rfl) (by kernel_rfl) (by kernel_rfl) (by kernel_rfl)) ?_
       have hC : Core B [Ass.own 3 (Kd.int .i64) a6 a5 a3] [] _ := ⟨_, _, hS.re [2] [] rfl sub_self⟩
       refine ⟨hC, ?_⟩
       refine ED.at' #[true, true, true, true, true, true, true, true, true, true, true, true, true, true, false, false, false, false] (by kernel_rfl) ?_
       refine ED.one 14 3 #[true, true, true, true, true, true, true, true, true, true, true, true, true, true, true, false, false, false] (by kernel_rfl) (by kernel_rfl) (by kernel_rfl) (EO.lit hS kS96 96 94 1 #[(0, .agg #[.int .i64 a9, .int .i64 0, .int .i32 0, .int .i64 0])] [.int .i64 a9, .int .i64 0, .int .i32 0, .int .i64 0] a8 66 (by kernel_rfl) (by kernel_rfl) (by kernel_rfl) (fun _ => (by kernel_rfl)) (by rw [c1]; rfl) (by kernel_rfl) (fun w G hr => (by rw [c1]; exact ⟨[.int .i64 a9, .int .i64 0, .int .i32 0, .int .i64 0], [], rfl, ⟨[.int .i64 a9], [.int .i64 0, .int .i32 0, .int .i64 0], rfl, rfl, ⟨[.int .i64 0], [.int .i32 0, .int .i64 0], rfl, rfl, ⟨[.int .i32 0], [.int .i64 0], rfl, rfl, ⟨[.int .i64 0], [], rfl, rfl, rfl⟩⟩⟩⟩, rfl⟩)) ?_)
       intro d1 w hS
       have hC : Core B [Ass.own 3 (Kd.int .i64) a6 a5 a3] [] _ := ⟨_, _, hS.re [3] [] rfl sub_self⟩
       refine ⟨hC, ?_⟩
       refine ED.one 15 2 #[true, true, true, true, true, true, true, true, true, true, true, true, true, true, true, true, false, false] (by kernel_rfl) (by kernel_rfl) (by kernel_rfl) (EO.append hS 94 94 96 32 1 kS96 b5 b6 (a4.getD a0.toNat []) rfl (some ⟨d1, 0, none⟩) 1 a8 (Rd.own 0 96 rfl) b7 c4 (fun f1 g9 => Ass.own 96 kS96 (some ⟨d1, 0, none⟩) 1 a8 :: Ass.own 96 kS96 f1 g9 b7 :: Ass.box 105 a7 [.slice a6 a3.length a5, .slice (some a1) a4.length a2] :: Ass.own 3 (Kd.int .i64) a6 a5 a3 :: Ass.holed 94 96 kS96 (some a1) a2 a4 a0.toNat (b5, (a4.getD a0.toNat []).length, b6) :: os) 67 (by kernel_rfl) (by kernel_rfl) (by kernel_rfl) (by kernel_rfl) c3 (fun _ _ => rfl) ?_)
       intro f1 g9 w hS
       have hC : Core B [Ass.own 3 (Kd.int .i64) a6 a5 a3] [] _ := ⟨_, _, hS.re [3] [] rfl sub_self⟩
       refine ⟨hC, ?_⟩
       refine ED.Y hN hF hC 16 1 #[true, true, true, true, true, true, true, true, true, true, true, true, true, true, true, true, true, false] (by kernel_rfl) (by kernel_rfl) rfl (fun _ _ _ hS => YO.idx 89 1 a1 a4.length a2 .i64 a0 68 (by kernel_rfl) (by kernel_rfl) (by kernel_rfl) (by kernel_rfl) b3 b9) ?_
       refine ED.one 17 0 #[true, true, true, true, true, true, true, true, true, true, true, true, true, true, true, true, true, true] (by kernel_rfl) (by kernel_rfl) (by kernel_rfl) (EO.closeEl hS 1 3 a1 a0 rfl rfl b3 b0 b4 (Ass.own 96 kS96 (some ⟨d1, 0, none⟩) 1 a8 :: Ass.box 105 a7 [.slice a6 a3.length a5, .slice (some a1) a4.length a2] :: Ass.own 3 (Kd.int .i64) a6 a5 a3 :: Ass.deep 94 96 kS96 (some a1) a2 b0 :: os) 94 (by kernel_rfl) (by kernel_rfl) (by kernel_rfl) (by kernel_rfl) rfl ?_)
       intro w hS
       have hS : St B w (Ass.own 96 kS96 (some ⟨d1, 0, none⟩) 1 a8 :: Ass.box 105 a7 [.slice a6 a3.length a5, .slice (some a1) b0.length a2] :: Ass.own 3 (Kd.int .i64) a6 a5 a3 :: Ass.deep 94 96 kS96 (some a1) a2 b0 :: os) (rs) := by simpa only [b4, List.length_set] using hS
       have hC : Core B [Ass.own 3 (Kd.int .i64) a6 a5 a3] [] _ := ⟨_, _, hS.re [2] [] rfl sub_self⟩
       refine ⟨hC, ?_⟩
       refine ED.keep [8, 54, 55, 56, 59, 60, 61, 62, 65, 66, 68] [(8, .int .i32 b1), (54, .pointer (some ⟨a7, 1, none⟩)), (55, .slice (some a1) a4.length a2), (56, .int .i64 a0), (59, .pointer (some ⟨a7, 1, none⟩)), (60, .slice (some a1) a4.length a2), (61, .int .i64 a0), (62, .pointer (some ((a1.add (a0.toNat * 1)).add 0))), (65, .agg #[.int .i64 a9, .int .i64 0, .int .i32 0, .int .i64 0]), (66, .slice (some ⟨d1, 0, none⟩) a8.length 1), (68, .pointer (some ((a1.add (a0.toNat * 1)).add 0)))] (by kernel_rfl) ?_
       refine ED.as' [(8, .int .i32 b1), (54, .pointer (some ⟨a7, 1, none⟩)), (55, .slice (some a1) b0.length a2), (56, .int .i64 a0), (59, .pointer (some ⟨a7, 1, none⟩)), (60, .slice (some a1) b0.length a2), (61, .int .i64 a0), (62, .pointer (some ((a1.add (a0.toNat * 1)).add 0))), (65, .agg #[.int .i64 a9, .int .i64 0, .int .i32 0, .int .i64 0]), (66, .slice (some ⟨d1, 0, none⟩) a8.length 1), (68, .pointer (some ((a1.add (a0.toNat * 1)).add 0)))] (by simp only [b4, List.length_set]) ?_
       refine ED.done (by kernel_rfl) ?_
       refine EQ.to ?_
       refine EQ.keep [8] [(8, .int .i32 b1)] (by kernel_rfl) ?_
       exact fun a ha => ⟨(some ⟨d1, 0, none⟩), 1, ha, (hS.re [3, 3, 3, 3] [] rfl (sub_self))⟩
      ·refine EO.lit hS kS96 96 94 1 #[(0, .agg #[.int .i64 a9, .int .i64 0, .int .i32 0, .int .i64 0])] [.int .i64 a9, .int .i64 0, .int .i32 0, .int .i64 0] a8 66 (by kernel_rfl) (by kernel_rfl) (by kernel_rfl) (fun _ => (by kernel_rfl)) (by rw [c1]; rfl) (by kernel_rfl) (fun w G hr => (by rw [c1]; exact ⟨[.int .i64 a9, .int .i64 0, .int .i32 0, .int .i64 0], [], rfl, ⟨[.int .i64 a9], [.int .i64 0, .int .i32 0, .int .i64 0], rfl, rfl, ⟨[.int .i64 0], [.int .i32 0, .int .i64 0], rfl, rfl, ⟨[.int .i32 0], [.int .i64 0], rfl, rfl, ⟨[.int .i64 0], [], rfl, rfl, rfl⟩⟩⟩⟩, rfl⟩)) ?_
       intro d2 w hS
       have hC : Core B [Ass.own 3 (Kd.int .i64) a6 a5 a3] [] _ := ⟨_, _, hS.re [3] [] rfl sub_self⟩
       refine ⟨hC, ?_⟩
       refine ED.at' #[true, true, true, true, true, true, true, true, true, true, true, false, true, true, true, false, false, false] (by kernel_rfl) ?_
       refine ED.one 11 3 #[true, true, true, true, true, true, true, true, true, true, true, true, true, true, true, false, false, false] (by kernel_rfl) (by kernel_rfl) (by kernel_rfl) (EO.Y (YO.loadHole hS 4 a1 (j := a0) rfl b3 94 63 (by kernel_rfl) (by kernel_rfl) (by kernel_rfl) (by kernel_rfl)) ?_)
       have hC : Core B [Ass.own 3 (Kd.int .i64) a6 a5 a3] [] _ := ⟨_, _, hS.re [3] [] rfl sub_self⟩
       refine ⟨hC, ?_⟩
       refine ED.one 15 2 #[true, true, true, true, true, true, true, true, true, true, true, true, true, true, true, true, false, false] (by kernel_rfl) (by kernel_rfl) (by kernel_rfl) (EO.append hS 94 94 96 32 1 kS96 b5 b6 (a4.getD a0.toNat []) rfl (some ⟨d2, 0, none⟩) 1 a8 (Rd.own 0 96 rfl) b7 c4 (fun f2 i0 => Ass.own 96 kS96 (some ⟨d2, 0, none⟩) 1 a8 :: Ass.own 96 kS96 f2 i0 b7 :: Ass.box 105 a7 [.slice a6 a3.length a5, .slice (some a1) a4.length a2] :: Ass.own 3 (Kd.int .i64) a6 a5 a3 :: Ass.holed 94 96 kS96 (some a1) a2 a4 a0.toNat (b5, (a4.getD a0.toNat []).length, b6) :: os) 67 (by kernel_rfl) (by kernel_rfl) (by kernel_rfl) (by kernel_rfl) c3 (fun _ _ => rfl) ?_)
       intro f2 i0 w hS
       have hC : Core B [Ass.own 3 (Kd.int .i64) a6 a5 a3] [] _ := ⟨_, _, hS.re [3] [] rfl sub_self⟩
       refine ⟨hC, ?_⟩
       refine ED.Y hN hF hC 16 1 #[true, true, true, true, true, true, true, true, true, true, true, true, true, true, true, true, true, false] (by kernel_rfl) (by kernel_rfl) rfl (fun _ _ _ hS => YO.idx 89 1 a1 a4.length a2 .i64 a0 68 (by kernel_rfl) (by kernel_rfl) (by kernel_rfl) (by kernel_rfl) b3 b9) ?_
       refine ED.one 17 0 #[true, true, true, true, true, true, true, true, true, true, true, true, true, true, true, true, true, true] (by kernel_rfl) (by kernel_rfl) (by kernel_rfl) (EO.closeEl hS 1 3 a1 a0 rfl rfl b3 b0 b4 (Ass.own 96 kS96 (some ⟨d2, 0, none⟩) 1 a8 :: Ass.box 105 a7 [.slice a6 a3.length a5, .slice (some a1) a4.length a2] :: Ass.own 3 (Kd.int .i64) a6 a5 a3 :: Ass.deep 94 96 kS96 (some a1) a2 b0 :: os) 94 (by kernel_rfl) (by kernel_rfl) (by kernel_rfl) (by kernel_rfl) rfl ?_)
       intro w hS
       have hS : St B w (Ass.own 96 kS96 (some ⟨d2, 0, none⟩) 1 a8 :: Ass.box 105 a7 [.slice a6 a3.length a5, .slice (some a1) b0.length a2] :: Ass.own 3 (Kd.int .i64) a6 a5 a3 :: Ass.deep 94 96 kS96 (some a1) a2 b0 :: os) (rs) := by simpa only [b4, List.length_set] using hS
       have hC : Core B [Ass.own 3 (Kd.int .i64) a6 a5 a3] [] _ := ⟨_, _, hS.re [2] [] rfl sub_self⟩
       refine ⟨hC, ?_⟩
       refine ED.keep [8, 54, 55, 56, 59, 60, 61, 62, 65, 66, 68] [(8, .int .i32 b1), (54, .pointer (some ⟨a7, 1, none⟩)), (55, .slice (some a1) a4.length a2), (56, .int .i64 a0), (59, .pointer (some ⟨a7, 1, none⟩)), (60, .slice (some a1) a4.length a2), (61, .int .i64 a0), (62, .pointer (some ((a1.add (a0.toNat * 1)).add 0))), (65, .agg #[.int .i64 a9, .int .i64 0, .int .i32 0, .int .i64 0]), (66, .slice (some ⟨d2, 0, none⟩) a8.length 1), (68, .pointer (some ((a1.add (a0.toNat * 1)).add 0)))] (by kernel_rfl) ?_
       refine ED.as' [(8, .int .i32 b1), (54, .pointer (some ⟨a7, 1, none⟩)), (55, .slice (some a1) b0.length a2), (56, .int .i64 a0), (59, .pointer (some ⟨a7, 1, none⟩)), (60, .slice (some a1) b0.length a2), (61, .int .i64 a0), (62, .pointer (some ((a1.add (a0.toNat * 1)).add 0))), (65, .agg #[.int .i64 a9, .int .i64 0, .int .i32 0, .int .i64 0]), (66, .slice (some ⟨d2, 0, none⟩) a8.length 1), (68, .pointer (some ((a1.add (a0.toNat * 1)).add 0)))] (by simp only [b4, List.length_set]) ?_
       refine ED.done (by kernel_rfl) ?_
       refine EQ.to ?_
       refine EQ.keep [8] [(8, .int .i32 b1)] (by kernel_rfl) ?_
       exact fun a ha => ⟨(some ⟨d2, 0, none⟩), 1, ha, (hS.re [3, 3, 3, 3] [] rfl (sub_self))⟩
     ·refine EO.Y (YO.loadHole hS 3 a1 (j := a0) rfl b3 94 63 (by kernel_rfl) (by kernel_rfl) (by kernel_rfl) (by kernel_rfl)) ?_
      have hC : Core B [Ass.own 3 (Kd.int .i64) a6 a5 a3] [] _ := ⟨_, _, hS.re [2] [] rfl sub_self⟩
      refine ⟨hC, ?_⟩
      refine ED.at' #[true, true, true, false, true, true, true, true, true, true, true, true, true, true, false, false, false, false] (by kernel_rfl) ?_
      refine ED.two 3 14 4 (by kernel_rfl) (by kernel_rfl) ?_ ?_
      ·refine EO.Y (YO.loadBox hS 1 rfl 89 1 1 (.slice (some a1) a4.length a2) 55 (by kernel_rfl) (by kernel_rfl) (by kernel_rfl) (by kernel_rfl)) ?_
       have hC : Core B [Ass.own 3 (Kd.int .i64) a6 a5 a3] [] _ := ⟨_, _, hS.re [2] [] rfl sub_self⟩
       refine ⟨hC, ?_⟩
       refine ED.at' #[true, true, true, true, true, true, true, true, true, true, true, true, true, true, false, false, false, false] (by kernel_rfl) ?_
       refine ED.one 14 3 #[true, true, true, true, true, true, true, true, true, true, true, true, true, true, true, false, false, false] (by kernel_rfl) (by kernel_rfl) (by kernel_rfl) (EO.lit hS kS96 96 94 1 #[(0, .agg #[.int .i64 a9, .int .i64 0, .int .i32 0, .int .i64 0])] [.int .i64 a9, .int .i64 0, .int .i32 0, .int .i64 0] a8 66 (by kernel_rfl) (by kernel_rfl) (by kernel_rfl) (fun _ => (by kernel_rfl)) (by rw [c1]; rfl) (by kernel_rfl) (fun w G hr => (by rw [c1]; exact ⟨[.int .i64 a9, .int .i64 0, .int .i32 0, .int .i64 0], [], rfl, ⟨[.int .i64 a9], [.int .i64 0, .int .i32 0, .int .i64 0], rfl, rfl, ⟨[.int .i64 0], [.int .i32 0, .int .i64 0], rfl, rfl, ⟨[.int .i32 0], [.int .i64 0], rfl, rfl, ⟨[.int .i64 0], [], rfl, rfl, rfl⟩⟩⟩⟩, rfl⟩)) ?_)
       intro d3 w hS
       have hC : Core B [Ass.own 3 (Kd.int .i64) a6 a5 a3] [] _ := ⟨_, _, hS.re [3] [] rfl sub_self⟩
       refine ⟨hC, ?_⟩
       refine ED.one 15 2 #[true, true, true, true, true, true, true, true, true, true, true, true, true, true, true, true, false, false] (by kernel_rfl) (by kernel_rfl) (by kernel_rfl) (EO.append hS 94 94 96 32 1 kS96 b5 b6 (a4.getD a0.toNat []) rfl (some ⟨d3, 0, none⟩) 1 a8 (Rd.own 0 96 rfl) b7 c4 (fun f3 i1 => Ass.own 96 kS96 (some ⟨d3, 0, none⟩) 1 a8 :: Ass.own 96 kS96 f3 i1 b7 :: Ass.box 105 a7 [.slice a6 a3.length a5, .slice (some a1) a4.length a2] :: Ass.own 3 (Kd.int .i64) a6 a5 a3 :: Ass.holed 94 96 kS96 (some a1) a2 a4 a0.toNat (b5, (a4.getD a0.toNat []).length, b6) :: os) 67 (by kernel_rfl) (by kernel_rfl) (by kernel_rfl) (by kernel_rfl) c3 (fun _ _ => rfl) ?_)
       intro f3 i1 w hS
       have hC : Core B [Ass.own 3 (Kd.int .i64) a6 a5 a3] [] _ := ⟨_, _, hS.re [3] [] rfl sub_self⟩
       refine ⟨hC, ?_⟩
       refine ED.Y hN hF hC 16 1 #[true, true, true, true, true, true, true, true, true, true, true, true, true, true, true, true, true, false] (by kernel_rfl) (by kernel_rfl) rfl (fun _ _ _ hS => YO.idx 89 1 a1 a4.length a2 .i64 a0 68 (by kernel_rfl) (by kernel_rfl) (by kernel_rfl) (by kernel_rfl) b3 b9) ?_
       refine ED.one 17 0 #[true, true, true, true, true, true, true, true, true, true, true, true, true, true, true, true, true, true] (by kernel_rfl) (by kernel_rfl) (by kernel_rfl) (EO.closeEl hS 1 3 a1 a0 rfl rfl b3 b0 b4 (Ass.own 96 kS96 (some ⟨d3, 0, none⟩) 1 a8 :: Ass.box 105 a7 [.slice a6 a3.length a5, .slice (some a1) a4.length a2] :: Ass.own 3 (Kd.int .i64) a6 a5 a3 :: Ass.deep 94 96 kS96 (some a1) a2 b0 :: os) 94 (by kernel_rfl) (by kernel_rfl) (by kernel_rfl) (by kernel_rfl) rfl ?_)
       intro w hS
       have hS : St B w (Ass.own 96 kS96 (some ⟨d3, 0, none⟩) 1 a8 :: Ass.box 105 a7 [.slice a6 a3.length a5, .slice (some a1) b0.length a2] :: Ass.own 3 (Kd.int .i64) a6 a5 a3 :: Ass.deep 94 96 kS96 (some a1) a2 b0 :: os) (rs) := by simpa only [b4, List.length_set] using hS
       have hC : Core B [Ass.own 3 (Kd.int .i64) a6 a5 a3] [] _ := ⟨_, _, hS.re [2] [] rfl sub_self⟩
       refine ⟨hC, ?_⟩
       refine ED.keep [8, 54, 55, 56, 59, 60, 61, 62, 65, 66, 68] [(8, .int .i32 b1), (54, .pointer (some ⟨a7, 1, none⟩)), (55, .slice (some a1) a4.length a2), (56, .int .i64 a0), (59, .pointer (some ⟨a7, 1, none⟩)), (60, .slice (some a1) a4.length a2), (61, .int .i64 a0), (62, .pointer (some ((a1.add (a0.toNat * 1)).add 0))), (65, .agg #[.int .i64 a9, .int .i64 0, .int .i32 0, .int .i64 0]), (66, .slice (some ⟨d3, 0, none⟩) a8.length 1), (68, .pointer (some ((a1.add (a0.toNat * 1)).add 0)))] (by kernel_rfl) ?_
       refine ED.as' [(8, .int .i32 b1), (54, .pointer (some ⟨a7, 1, none⟩)), (55, .slice (some a1) b0.length a2), (56, .int .i64 a0), (59, .pointer (some ⟨a7, 1, none⟩)), (60, .slice (some a1) b0.length a2), (61, .int .i64 a0), (62, .pointer (some ((a1.add (a0.toNat * 1)).add 0))), (65, .agg #[.int .i64 a9, .int .i64 0, .int .i32 0, .int .i64 0]), (66, .slice (some ⟨d3, 0, none⟩) a8.length 1), (68, .pointer (some ((a1.add (a0.toNat * 1)).add 0)))] (by simp only [b4, List.length_set]) ?_
       refine ED.done (by kernel_rfl) ?_
       refine EQ.to ?_
       refine EQ.keep [8] [(8, .int .i32 b1)] (by kernel_rfl) ?_
       exact fun a ha => ⟨(some ⟨d3, 0, none⟩), 1, ha, (hS.re [3, 3, 3, 3] [] rfl (sub_self))⟩
      ·refine EO.lit hS kS96 96 94 1 #[(0, .agg #[.int .i64 a9, .int .i64 0, .int .i32 0, .int .i64 0])] [.int .i64 a9, .int .i64 0, .int .i32 0, .int .i64 0] a8 66 (by kernel_rfl) (by kernel_rfl) (by kernel_rfl) (fun _ => (by kernel_rfl)) (by rw [c1]; rfl) (by kernel_rfl) (fun w G hr => (by rw [c1]; exact ⟨[.int .i64 a9, .int .i64 0, .int .i32 0, .int .i64 0], [], rfl, ⟨[.int .i64 a9], [.int .i64 0, .int .i32 0, .int .i64 0], rfl, rfl, ⟨[.int .i64 0], [.int .i32 0, .int .i64 0], rfl, rfl, ⟨[.int .i32 0], [.int .i64 0], rfl, rfl, ⟨[.int .i64 0], [], rfl, rfl, rfl⟩⟩⟩⟩, rfl⟩)) ?_
       intro c5 w hS
       have hC : Core B [Ass.own 3 (Kd.int .i64) a6 a5 a3] [] _ := ⟨_, _, hS.re [3] [] rfl sub_self⟩
       refine ⟨hC, ?_⟩
       refine ED.at' #[true, true, true, false, true, true, true, true, true, true, true, true, true, true, true, false, false, false] (by kernel_rfl) ?_
       refine ED.two 3 15 3 (by kernel_rfl) (by kernel_rfl) ?_ ?_
       ·refine EO.Y (YO.loadBox hS 2 rfl 89 1 1 (.slice (some a1) a4.length a2) 55 (by kernel_rfl) (by kernel_rfl) (by kernel_rfl) (by kernel_rfl)) ?_
        have hC : Core B [Ass.own 3 (Kd.int .i64) a6 a5 a3] [] _ := ⟨_, _, hS.re [3] [] rfl sub_self⟩
        refine ⟨hC, ?_⟩
        refine ED.at' #[true, true, true, true, true, true, true, true, true, true, true, true, true, true, true, false, false, false] (by kernel_rfl) ?_
        refine ED.one 15 2 #[true, true, true, true, true, true, true, true, true, true, true, true, true, true, true, true, false, false] (by kernel_rfl) (by kernel_rfl) (by kernel_rfl) (EO.append hS 94 94 96 32 1 kS96 b5 b6 (a4.getD a0.toNat []) rfl (some ⟨c5, 0, none⟩) 1 a8 (Rd.own 0 96 rfl) b7 c4 (fun f4 i2 => Ass.own 96 kS96 (some ⟨c5, 0, none⟩) 1 a8 :: Ass.own 96 kS96 f4 i2 b7 :: Ass.box 105 a7 [.slice a6 a3.length a5, .slice (some a1) a4.length a2] :: Ass.own 3 (Kd.int .i64) a6 a5 a3 :: Ass.holed 94 96 kS96 (some a1) a2 a4 a0.toNat (b5, (a4.getD a0.toNat []).length, b6) :: os) 67 (by kernel_rfl) (by kernel_rfl) (by kernel_rfl) (by kernel_rfl) c3 (fun _ _ => rfl) ?_)
        intro f4 i2 w hS
        have hC : Core B [Ass.own 3 (Kd.int .i64) a6 a5 a3] [] _ := ⟨_, _, hS.re [3] [] rfl sub_self⟩
        refine ⟨hC, ?_⟩
        refine ED.Y hN hF hC 16 1 #[true, true, true, true, true, true, true, true, true, true, true, true, true, true, true, true, true, false] (by kernel_rfl) (by kernel_rfl) rfl (fun _ _ _ hS => YO.idx 89 1 a1 a4.length a2 .i64 a0 68 (by kernel_rfl) (by kernel_rfl) (by kernel_rfl) (by kernel_rfl) b3 b9) ?_
        refine ED.one 17 0 #[true, true, true, true, true, true, true, true, true, true, true, true, true, true, true, true, true, true] (by kernel_rfl) (by kernel_rfl) (by kernel_rfl) (EO.closeEl hS 1 3 a1 a0 rfl rfl b3 b0 b4 (Ass.own 96 kS96 (some ⟨c5, 0, none⟩) 1 a8 :: Ass.box 105 a7 [.slice a6 a3.length a5, .slice (some a1) a4.length a2] :: Ass.own 3 (Kd.int .i64) a6 a5 a3 :: Ass.deep 94 96 kS96 (some a1) a2 b0 :: os) 94 (by kernel_rfl) (by kernel_rfl) (by kernel_rfl) (by kernel_rfl) rfl ?_)
        intro w hS
        have hS : St B w (Ass.own 96 kS96 (some ⟨c5, 0, none⟩) 1 a8 :: Ass.box 105 a7 [.slice a6 a3.length a5, .slice (some a1) b0.length a2] :: Ass.own 3 (Kd.int .i64) a6 a5 a3 :: Ass.deep 94 96 kS96 (some a1) a2 b0 :: os) (rs) := by simpa only [b4, List.length_set] using hS
        have hC : Core B [Ass.own 3 (Kd.int .i64) a6 a5 a3] [] _ := ⟨_, _, hS.re [2] [] rfl sub_self⟩
        refine ⟨hC, ?_⟩
        refine ED.keep [8, 54, 55, 56, 59, 60, 61, 62, 65, 66, 68] [(8, .int .i32 b1), (54, .pointer (some ⟨a7, 1, none⟩)), (55, .slice (some a1) a4.length a2), (56, .int .i64 a0), (59, .pointer (some ⟨a7, 1, none⟩)), (60, .slice (some a1) a4.length a2), (61, .int .i64 a0), (62, .pointer (some ((a1.add (a0.toNat * 1)).add 0))), (65, .agg #[.int .i64 a9, .int .i64 0, .int .i32 0, .int .i64 0]), (66, .slice (some ⟨c5, 0, none⟩) a8.length 1), (68, .pointer (some ((a1.add (a0.toNat * 1)).add 0)))] (by kernel_rfl) ?_
        refine ED.as' [(8, .int .i32 b1), (54, .pointer (some ⟨a7, 1, none⟩)), (55, .slice (some a1) b0.length a2), (56, .int .i64 a0), (59, .pointer (some ⟨a7, 1, none⟩)), (60, .slice (some a1) b0.length a2), (61, .int .i64 a0), (62, .pointer (some ((a1.add (a0.toNat * 1)).add 0))), (65, .agg #[.int .i64 a9, .int .i64 0, .int .i32 0, .int .i64 0]), (66, .slice (some ⟨c5, 0, none⟩) a8.length 1), (68, .pointer (some ((a1.add (a0.toNat * 1)).add 0)))] (by simp only [b4, List.length_set]) ?_
        refine ED.done (by kernel_rfl) ?_
        refine EQ.to ?_
        refine EQ.keep [8] [(8, .int .i32 b1)] (by kernel_rfl) ?_
        exact fun a ha => ⟨(some ⟨c5, 0, none⟩), 1, ha, (hS.re [3, 3, 3, 3] [] rfl (sub_self))⟩
       ·refine EO.append hS 94 94 96 32 1 kS96 b5 b6 (a4.getD a0.toNat []) rfl (some ⟨c5, 0, none⟩) 1 a8 (Rd.own 0 96 rfl) b7 c4 (fun f5 i3 => Ass.own 96 kS96 (some ⟨c5, 0, none⟩) 1 a8 :: Ass.own 96 kS96 f5 i3 b7 :: Ass.box 105 a7 [.slice a6 a3.length a5, .slice (some a1) a4.length a2] :: Ass.own 3 (Kd.int .i64) a6 a5 a3 :: Ass.holed 94 96 kS96 (some a1) a2 a4 a0.toNat (b5, (a4.getD a0.toNat []).length, b6) :: os) 67 (by kernel_rfl) (by kernel_rfl) (by kernel_rfl) (by kernel_rfl) c3 (fun _ _ => rfl) ?_
        intro f5 i3 w hS
        have hC : Core B [Ass.own 3 (Kd.int .i64) a6 a5 a3] [] _ := ⟨_, _, hS.re [3] [] rfl sub_self⟩
        refine ⟨hC, ?_⟩
        refine ED.at' #[true, true, true, false, true, true, true, true, true, true, true, true, true, true, true, true, false, false] (by kernel_rfl) ?_
        refine ED.one 3 2 #[true, true, true, true, true, true, true, true, true, true, true, true, true, true, true, true, false, false] (by kernel_rfl) (by kernel_rfl) (by kernel_rfl) (EO.Y (YO.loadBox hS 2 rfl 89 1 1 (.slice (some a1) a4.length a2) 55 (by kernel_rfl) (by kernel_rfl) (by kernel_rfl) (by kernel_rfl)) ?_)
        have hC : Core B [Ass.own 3 (Kd.int .i64) a6 a5 a3] [] _ := ⟨_, _, hS.re [3] [] rfl sub_self⟩
        refine ⟨hC, ?_⟩
        refine ED.Y hN hF hC 16 1 #[true, true, true, true, true, true, true, true, true, true, true, true, true, true, true, true, true, false] (by kernel_rfl) (by kernel_rfl) rfl (fun _ _ _ hS => YO.idx 89 1 a1 a4.length a2 .i64 a0 68 (by kernel_rfl) (by kernel_rfl) (by kernel_rfl) (by kernel_rfl) b3 b9) ?_
        refine ED.one 17 0 #[true, true, true, true, true, true, true, true, true, true, true, true, true, true, true, true, true, true] (by kernel_rfl) (by kernel_rfl) (by kernel_rfl) (EO.closeEl hS 1 3 a1 a0 rfl rfl b3 b0 b4 (Ass.own 96 kS96 (some ⟨c5, 0, none⟩) 1 a8 :: Ass.box 105 a7 [.slice a6 a3.length a5, .slice (some a1) a4.length a2] :: Ass.own 3 (Kd.int .i64) a6 a5 a3 :: Ass.deep 94 96 kS96 (some a1) a2 b0 :: os) 94 (by kernel_rfl) (by kernel_rfl) (by kernel_rfl) (by kernel_rfl) rfl ?_)
        intro w hS
        have hS : St B w (Ass.own 96 kS96 (some ⟨c5, 0, none⟩) 1 a8 :: Ass.box 105 a7 [.slice a6 a3.length a5, .slice (some a1) b0.length a2] :: Ass.own 3 (Kd.int .i64) a6 a5 a3 :: Ass.deep 94 96 kS96 (some a1) a2 b0 :: os) (rs) := by simpa only [b4, List.length_set] using hS
        have hC : Core B [Ass.own 3 (Kd.int .i64) a6 a5 a3] [] _ := ⟨_, _, hS.re [2] [] rfl sub_self⟩
        refine ⟨hC, ?_⟩
        refine ED.keep [8, 54, 55, 56, 59, 60, 61, 62, 65, 66, 68] [(8, .int .i32 b1), (54, .pointer (some ⟨a7, 1, none⟩)), (55, .slice (some a1) a4.length a2), (56, .int .i64 a0), (59, .pointer (some ⟨a7, 1, none⟩)), (60, .slice (some a1) a4.length a2), (61, .int .i64 a0), (62, .pointer (some ((a1.add (a0.toNat * 1)).add 0))), (65, .agg #[.int .i64 a9, .int .i64 0, .int .i32 0, .int .i64 0]), (66, .slice (some ⟨c5, 0, none⟩) a8.length 1), (68, .pointer (some ((a1.add (a0.toNat * 1)).add 0)))] (by kernel_rfl) ?_
        refine ED.as' [(8, .int .i32 b1), (54, .pointer (some ⟨a7, 1, none⟩)), (55, .slice (some a1) b0.length a2), (56, .int .i64 a0), (59, .pointer (some ⟨a7, 1, none⟩)), (60, .slice (some a1) b0.length a2), (61, .int .i64 a0), (62, .pointer (some ((a1.add (a0.toNat * 1)).add 0))), (65, .agg #[.int .i64 a9, .int .i64 0, .int .i32 0, .int .i64 0]), (66, .slice (some ⟨c5, 0, none⟩) a8.length 1), (68, .pointer (some ((a1.add (a0.toNat * 1)).add 0)))] (by simp only [b4, List.length_set]) ?_
        refine ED.done (by kernel_rfl) ?_
        refine EQ.to ?_
        refine EQ.keep [8] [(8, .int .i32 b1)] (by kernel_rfl) ?_
        exact fun a ha => ⟨(some ⟨c5, 0, none⟩), 1, ha, (hS.re [3, 3, 3, 3] [] rfl (sub_self))⟩
     ·refine EO.lit hS kS96 96 94 1 #[(0, .agg #[.int .i64 a9, .int .i64 0, .int .i32 0, .int .i64 0])] [.int .i64 a9, .int .i64 0, .int .i32 0, .int .i64 0] a8 66 (by kernel_rfl) (by kernel_rfl) (by kernel_rfl) (fun _ => (by kernel_rfl)) (by rw [c1]; rfl) (by kernel_rfl) (fun w G hr => (by rw [c1]; exact ⟨[.int .i64 a9, .int .i64 0, .int .i32 0, .int .i64 0], [], rfl, ⟨[.int .i64 a9], [.int .i64 0, .int .i32 0, .int .i64 0], rfl, rfl, ⟨[.int .i64 0], [.int .i32 0, .int .i64 0], rfl, rfl, ⟨[.int .i32 0], [.int .i64 0], rfl, rfl, ⟨[.int .i64 0], [], rfl, rfl, rfl⟩⟩⟩⟩, rfl⟩)) ?_
      intro c0 w hS
      have hC : Core B [Ass.own 3 (Kd.int .i64) a6 a5 a3] [] _ := ⟨_, _, hS.re [3] [] rfl sub_self⟩
      refine ⟨hC, ?_⟩
      refine ED.at' #[true, true, true, false, true, true, true, true, true, true, true, false, true, true, true, false, false, false] (by kernel_rfl) ?_
      refine ED.two 3 11 4 (by kernel_rfl) (by kernel_rfl) ?_ ?_
      ·refine EO.Y (YO.loadBox hS 2 rfl 89 1 1 (.slice (some a1) a4.length a2) 55 (by kernel_rfl) (by kernel_rfl) (by kernel_rfl) (by kernel_rfl)) ?_
       have hC : Core B [Ass.own 3 (Kd.int .i64) a6 a5 a3] [] _ := ⟨_, _, hS.re [3] [] rfl sub_self⟩
       refine ⟨hC, ?_⟩
       refine ED.at' #[true, true, true, true, true, true, true, true, true, true, true, false, true, true, true, false, false, false] (by kernel_rfl) ?_
       refine ED.one 11 3 #[true, true, true, true, true, true, true, true, true, true, true, true, true, true, true, false, false, false] (by kernel_rfl) (by kernel_rfl) (by kernel_rfl) (EO.Y (YO.loadHole hS 4 a1 (j := a0) rfl b3 94 63 (by kernel_rfl) (by kernel_rfl) (by kernel_rfl) (by kernel_rfl)) ?_)
       have hC : Core B [Ass.own 3 (Kd.int .i64) a6 a5 a3] [] _ := ⟨_, _, hS.re [3] [] rfl sub_self⟩
       refine ⟨hC, ?_⟩
       refine ED.one 15 2 #[true, true, true, true, true, true, true, true, true, true, true, true, true, true, true, true, false, false] (by kernel_rfl) (by kernel_rfl) (by kernel_rfl) (EO.append hS 94 94 96 32 1 kS96 b5 b6 (a4.getD a0.toNat []) rfl (some ⟨c0, 0, none⟩) 1 a8 (Rd.own 0 96 rfl) b7 c4 (fun f6 i4 => Ass.own 96 kS96 (some ⟨c0, 0, none⟩) 1 a8 :: Ass.own 96 kS96 f6 i4 b7 :: Ass.box 105 a7 [.slice a6 a3.length a5, .slice (some a1) a4.length a2] :: Ass.own 3 (Kd.int .i64) a6 a5 a3 :: Ass.holed 94 96 kS96 (some a1) a2 a4 a0.toNat (b5, (a4.getD a0.toNat []).length, b6) :: os) 67 (by kernel_rfl) (by kernel_rfl) (by kernel_rfl) (by kernel_rfl) c3 (fun _ _ => rfl) ?_)
       intro f6 i4 w hS
       have hC : Core B [Ass.own 3 (Kd.int .i64) a6 a5 a3] [] _ := ⟨_, _, hS.re [3] [] rfl sub_self⟩
       refine ⟨hC, ?_⟩
       refine ED.Y hN hF hC 16 1 #[true, true, true, true, true, true, true, true, true, true, true, true, true, true, true, true, true, false] (by kernel_rfl) (by kernel_rfl) rfl (fun _ _ _ hS => YO.idx 89 1 a1 a4.length a2 .i64 a0 68 (by kernel_rfl) (by kernel_rfl) (by kernel_rfl) (by kernel_rfl) b3 b9) ?_
       refine ED.one 17 0 #[true, true, true, true, true, true, true, true, true, true, true, true, true, true, true, true, true, true] (by kernel_rfl) (by kernel_rfl) (by kernel_rfl) (EO.closeEl hS 1 3 a1 a0 rfl rfl b3 b0 b4 (Ass.own 96 kS96 (some ⟨c0, 0, none⟩) 1 a8 :: Ass.box 105 a7 [.slice a6 a3.length a5, .slice (some a1) a4.length a2] :: Ass.own 3 (Kd.int .i64) a6 a5 a3 :: Ass.deep 94 96 kS96 (some a1) a2 b0 :: os) 94 (by kernel_rfl) (by kernel_rfl) (by kernel_rfl) (by kernel_rfl) rfl ?_)
       intro w hS
       have hS : St B w (Ass.own 96 kS96 (some ⟨c0, 0, none⟩) 1 a8 :: Ass.box 105 a7 [.slice a6 a3.length a5, .slice (some a1) b0.length a2] :: Ass.own 3 (Kd.int .i64) a6 a5 a3 :: Ass.deep 94 96 kS96 (some a1) a2 b0 :: os) (rs) := by simpa only [b4, List.length_set] using hS
       have hC : Core B [Ass.own 3 (Kd.int .i64) a6 a5 a3] [] _ := ⟨_, _, hS.re [2] [] rfl sub_self⟩
       refine ⟨hC, ?_⟩
       refine ED.keep [8, 54, 55, 56, 59, 60, 61, 62, 65, 66, 68] [(8, .int .i32 b1), (54, .pointer (some ⟨a7, 1, none⟩)), (55, .slice (some a1) a4.length a2), (56, .int .i64 a0), (59, .pointer (some ⟨a7, 1, none⟩)), (60, .slice (some a1) a4.length a2), (61, .int .i64 a0), (62, .pointer (some ((a1.add (a0.toNat * 1)).add 0))), (65, .agg #[.int .i64 a9, .int .i64 0, .int .i32 0, .int .i64 0]), (66, .slice (some ⟨c0, 0, none⟩) a8.length 1), (68, .pointer (some ((a1.add (a0.toNat * 1)).add 0)))] (by kernel_rfl) ?_
       refine ED.as' [(8, .int .i32 b1), (54, .pointer (some ⟨a7, 1, none⟩)), (55, .slice (some a1) b0.length a2), (56, .int .i64 a0), (59, .pointer (some ⟨a7, 1, none⟩)), (60, .slice (some a1) b0.length a2), (61, .int .i64 a0), (62, .pointer (some ((a1.add (a0.toNat * 1)).add 0))), (65, .agg #[.int .i64 a9, .int .i64 0, .int .i32 0, .int .i64 0]), (66, .slice (some ⟨c0, 0, none⟩) a8.length 1), (68, .pointer (some ((a1.add (a0.toNat * 1)).add 0)))] (by simp only [b4, List.length_set]) ?_
       refine ED.done (by kernel_rfl) ?_
       refine EQ.to ?_
       refine EQ.keep [8] [(8, .int .i32 b1)] (by kernel_rfl) ?_
       exact fun a ha => ⟨(some ⟨c0, 0, none⟩), 1, ha, (hS.re [3, 3, 3, 3] [] rfl (sub_self))⟩
      ·refine EO.Y (YO.loadHole hS 4 a1 (j := a0) rfl b3 94 63 (by kernel_rfl) (by kernel_rfl) (by kernel_rfl) (by kernel_rfl)) ?_
       have hC : Core B [Ass.own 3 (Kd.int .i64) a6 a5 a3] [] _ := ⟨_, _, hS.re [3] [] rfl sub_self⟩
       refine ⟨hC, ?_⟩
       refine ED.at' #[true, true, true, false, true, true, true, true, true, true, true, true, true, true, true, false, false, false] (by kernel_rfl) ?_
       refine ED.two 3 15 3 (by kernel_rfl) (by kernel_rfl) ?_ ?_
       ·refine EO.Y (YO.loadBox hS 2 rfl 89 1 1 (.slice (some a1) a4.length a2) 55 (by kernel_rfl) (by kernel_rfl) (by kernel_rfl) (by kernel_rfl)) ?_
        have hC : Core B [Ass.own 3 (Kd.int .i64) a6 a5 a3] [] _ := ⟨_, _, hS.re [3] [] rfl sub_self⟩
        refine ⟨hC, ?_⟩
        refine ED.at' #[true, true, true, true, true, true, true, true, true, true, true, true, true, true, true, false, false, false] (by kernel_rfl) ?_
        refine ED.one 15 2 #[true, true, true, true, true, true, true, true, true, true, true, true, true, true, true, true, false, false] (by kernel_rfl) (by kernel_rfl) (by kernel_rfl) (EO.append hS 94 94 96 32 1 kS96 b5 b6 (a4.getD a0.toNat []) rfl (some ⟨c0, 0, none⟩) 1 a8 (Rd.own 0 96 rfl) b7 c4 (fun f7 i5 => Ass.own 96 kS96 (some ⟨c0, 0, none⟩) 1 a8 :: Ass.own 96 kS96 f7 i5 b7 :: Ass.box 105 a7 [.slice a6 a3.length a5, .slice (some a1) a4.length a2] :: Ass.own 3 (Kd.int .i64) a6 a5 a3 :: Ass.holed 94 96 kS96 (some a1) a2 a4 a0.toNat (b5, (a4.getD a0.toNat []).length, b6) :: os) 67 (by kernel_rfl) (by kernel_rfl) (by kernel_rfl) (by kernel_rfl) c3 (fun _ _ => rfl) ?_)
        intro f7 i5 w hS
        have hC : Core B [Ass.own 3 (Kd.int .i64) a6 a5 a3] [] _ := ⟨_, _, hS.re [3] [] rfl sub_self⟩
        refine ⟨hC, ?_⟩
        refine ED.Y hN hF hC 16 1 #[true, true, true, true, true, true, true, true, true, true, true, true, true, true, true, true, true, false] (by kernel_rfl) (by kernel_rfl) rfl (fun _ _ _ hS => YO.idx 89 1 a1 a4.length a2 .i64 a0 68 (by kernel_rfl) (by kernel_rfl) (by kernel_rfl) (by kernel_rfl) b3 b9) ?_
        refine ED.one 17 0 #[true, true, true, true, true, true, true, true, true, true, true, true, true, true, true, true, true, true] (by kernel_rfl) (by kernel_rfl) (by kernel_rfl) (EO.closeEl hS 1 3 a1 a0 rfl rfl b3 b0 b4 (Ass.own 96 kS96 (some ⟨c0, 0, none⟩) 1 a8 :: Ass.box 105 a7 [.slice a6 a3.length a5, .slice (some a1) a4.length a2] :: Ass.own 3 (Kd.int .i64) a6 a5 a3 :: Ass.deep 94 96 kS96 (some a1) a2 b0 :: os) 94 (by kernel_rfl) (by kernel_rfl) (by kernel_rfl) (by kernel_rfl) rfl ?_)
        intro w hS
        have hS : St B w (Ass.own 96 kS96 (some ⟨c0, 0, none⟩) 1 a8 :: Ass.box 105 a7 [.slice a6 a3.length a5, .slice (some a1) b0.length a2] :: Ass.own 3 (Kd.int .i64) a6 a5 a3 :: Ass.deep 94 96 kS96 (some a1) a2 b0 :: os) (rs) := by simpa only [b4, List.length_set] using hS
        have hC : Core B [Ass.own 3 (Kd.int .i64) a6 a5 a3] [] _ := ⟨_, _, hS.re [2] [] rfl sub_self⟩
        refine ⟨hC, ?_⟩
        refine ED.keep [8, 54, 55, 56, 59, 60, 61, 62, 65, 66, 68] [(8, .int .i32 b1), (54, .pointer (some ⟨a7, 1, none⟩)), (55, .slice (some a1) a4.length a2), (56, .int .i64 a0), (59, .pointer (some ⟨a7, 1, none⟩)), (60, .slice (some a1) a4.length a2), (61, .int .i64 a0), (62, .pointer (some ((a1.add (a0.toNat * 1)).add 0))), (65, .agg #[.int .i64 a9, .int .i64 0, .int .i32 0, .int .i64 0]), (66, .slice (some ⟨c0, 0, none⟩) a8.length 1), (68, .pointer (some ((a1.add (a0.toNat * 1)).add 0)))] (by kernel_rfl) ?_
        refine ED.as' [(8, .int .i32 b1), (54, .pointer (some ⟨a7, 1, none⟩)), (55, .slice (some a1) b0.length a2), (56, .int .i64 a0), (59, .pointer (some ⟨a7, 1, none⟩)), (60, .slice (some a1) b0.length a2), (61, .int .i64 a0), (62, .pointer (some ((a1.add (a0.toNat * 1)).add 0))), (65, .agg #[.int .i64 a9, .int .i64 0, .int .i32 0, .int .i64 0]), (66, .slice (some ⟨c0, 0, none⟩) a8.length 1), (68, .pointer (some ((a1.add (a0.toNat * 1)).add 0)))] (by simp only [b4, List.length_set]) ?_
        refine ED.done (by kernel_rfl) ?_
        refine EQ.to ?_
        refine EQ.keep [8] [(8, .int .i32 b1)] (by kernel_rfl) ?_
        exact fun a ha => ⟨(some ⟨c0, 0, none⟩), 1, ha, (hS.re [3, 3, 3, 3] [] rfl (sub_self))⟩
       ·refine EO.append hS 94 94 96 32 1 kS96 b5 b6 (a4.getD a0.toNat []) rfl (some ⟨c0, 0, none⟩) 1 a8 (Rd.own 0 96 rfl) b7 c4 (fun f8 i6 => Ass.own 96 kS96 (some ⟨c0, 0, none⟩) 1 a8 :: Ass.own 96 kS96 f8 i6 b7 :: Ass.box 105 a7 [.slice a6 a3.length a5, .slice (some a1) a4.length a2] :: Ass.own 3 (Kd.int .i64) a6 a5 a3 :: Ass.holed 94 96 kS96 (some a1) a2 a4 a0.toNat (b5, (a4.getD a0.toNat []).length, b6) :: os) 67 (by kernel_rfl) (by kernel_rfl) (by kernel_rfl) (by kernel_rfl) c3 (fun _ _ => rfl) ?_
        intro f8 i6 w hS
        have hC : Core B [Ass.own 3 (Kd.int .i64) a6 a5 a3] [] _ := ⟨_, _, hS.re [3] [] rfl sub_self⟩
        refine ⟨hC, ?_⟩
        refine ED.at' #[true, true, true, false, true, true, true, true, true, true, true, true, true, true, true, true, false, false] (by kernel_rfl) ?_
        refine ED.one 3 2 #[true, true, true, true, true, true, true, true, true, true, true, true, true, true, true, true, false, false] (by kernel_rfl) (by kernel_rfl) (by kernel_rfl) (EO.Y (YO.loadBox hS 2 rfl 89 1 1 (.slice (some a1) a4.length a2) 55 (by kernel_rfl) (by kernel_rfl) (by kernel_rfl) (by kernel_rfl)) ?_)
        have hC : Core B [Ass.own 3 (Kd.int .i64) a6 a5 a3] [] _ := ⟨_, _, hS.re [3] [] rfl sub_self⟩
        refine ⟨hC, ?_⟩
        refine ED.Y hN hF hC 16 1 #[true, true, true, true, true, true, true, true, true, true, true, true, true, true, true, true, true, false] (by kernel_rfl) (by kernel_rfl) rfl (fun _ _ _ hS => YO.idx 89 1 a1 a4.length a2 .i64 a0 68 (by kernel_rfl) (by kernel_rfl) (by kernel_rfl) (by kernel_rfl) b3 b9) ?_
        refine ED.one 17 0 #[true, true, true, true, true, true, true, true, true, true, true, true, true, true, true, true, true, true] (by kernel_rfl) (by kernel_rfl) (by kernel_rfl) (EO.closeEl hS 1 3 a1 a0 rfl rfl b3 b0 b4 (Ass.own 96 kS96 (some ⟨c0, 0, none⟩) 1 a8 :: Ass.box 105 a7 [.slice a6 a3.length a5, .slice (some a1) a4.length a2] :: Ass.own 3 (Kd.int .i64) a6 a5 a3 :: Ass.deep 94 96 kS96 (some a1) a2 b0 :: os) 94 (by kernel_rfl) (by kernel_rfl) (by kernel_rfl) (by kernel_rfl) rfl ?_)
        intro w hS
        have hS : St B w (Ass.own 96 kS96 (some ⟨c0, 0, none⟩) 1 a8 :: Ass.box 105 a7 [.slice a6 a3.length a5, .slice (some a1) b0.length a2] :: Ass.own 3 (Kd.int .i64) a6 a5 a3 :: Ass.deep 94 96 kS96 (some a1) a2 b0 :: os) (rs) := by simpa only [b4, List.length_set] using hS
        have hC : Core B [Ass.own 3 (Kd.int .i64) a6 a5 a3] [] _ := ⟨_, _, hS.re [2] [] rfl sub_self⟩
        refine ⟨hC, ?_⟩
        refine ED.keep [8, 54, 55, 56, 59, 60, 61, 62, 65, 66, 68] [(8, .int .i32 b1), (54, .pointer (some ⟨a7, 1, none⟩)), (55, .slice (some a1) a4.length a2), (56, .int .i64 a0), (59, .pointer (some ⟨a7, 1, none⟩)), (60, .slice (some a1) a4.length a2), (61, .int .i64 a0), (62, .pointer (some ((a1.add (a0.toNat * 1)).add 0))), (65, .agg #[.int .i64 a9, .int .i64 0, .int .i32 0, .int .i64 0]), (66, .slice (some ⟨c0, 0, none⟩) a8.length 1), (68, .pointer (some ((a1.add (a0.toNat * 1)).add 0)))] (by kernel_rfl) ?_
        refine ED.as' [(8, .int .i32 b1), (54, .pointer (some ⟨a7, 1, none⟩)), (55, .slice (some a1) b0.length a2), (56, .int .i64 a0), (59, .pointer (some ⟨a7, 1, none⟩)), (60, .slice (some a1) b0.length a2), (61, .int .i64 a0), (62, .pointer (some ((a1.add (a0.toNat * 1)).add 0))), (65, .agg #[.int .i64 a9, .int .i64 0, .int .i32 0, .int .i64 0]), (66, .slice (some ⟨c0, 0, none⟩) a8.length 1), (68, .pointer (some ((a1.add (a0.toNat * 1)).add 0)))] (by simp only [b4, List.length_set]) ?_
        refine ED.done (by kernel_rfl) ?_
        refine EQ.to ?_
        refine EQ.keep [8] [(8, .int .i32 b1)] (by kernel_rfl) ?_
        exact fun a ha => ⟨(some ⟨c0, 0, none⟩), 1, ha, (hS.re [3, 3, 3, 3] [] rfl (sub_self))⟩
    ·refine EO.lit hS kS96 96 94 1 #[(0, .agg #[.int .i64 a9, .int .i64 0, .int .i32 0, .int .i64 0])] [.int .i64 a9, .int .i64 0, .int .i32 0, .int .i64 0] a8 66 (by kernel_rfl) (by kernel_rfl) (by kernel_rfl) (fun _ => (by kernel_rfl)) (by rw [c1]; rfl) (by kernel_rfl) (fun w G hr => (by rw [c1]; exact ⟨[.int .i64 a9, .int .i64 0, .int .i32 0, .int .i64 0], [], rfl, ⟨[.int .i64 a9], [.int .i64 0, .int .i32 0, .int .i64 0], rfl, rfl, ⟨[.int .i64 0], [.int .i32 0, .int .i64 0], rfl, rfl, ⟨[.int .i32 0], [.int .i64 0], rfl, rfl, ⟨[.int .i64 0], [], rfl, rfl, rfl⟩⟩⟩⟩, rfl⟩)) ?_
     intro b8 w hS
     have hC : Core B [Ass.own 3 (Kd.int .i64) a6 a5 a3] [] _ := ⟨_, _, hS.re [3] [] rfl sub_self⟩
     refine ⟨hC, ?_⟩
     refine ED.at' #[true, true, true, false, true, true, true, true, false, true, false, false, true, true, true, false, false, false] (by kernel_rfl) ?_
     refine ED.two 3 8 6 (by kernel_rfl) (by kernel_rfl) ?_ ?_
     ·refine EO.Y (YO.loadBox hS 2 rfl 89 1 1 (.slice (some a1) a4.length a2) 55 (by kernel_rfl) (by kernel_rfl) (by kernel_rfl) (by kernel_rfl)) ?_
      have hC : Core B [Ass.own 3 (Kd.int .i64) a6 a5 a3] [] _ := ⟨_, _, hS.re [3] [] rfl sub_self⟩
      refine ⟨hC, ?_⟩
      refine ED.at' #[true, true, true, true, true, true, true, true, false, true, false, false, true, true, true, false, false, false] (by kernel_rfl) ?_
      refine ED.one 8 5 #[true, true, true, true, true, true, true, true, true, true, false, false, true, true, true, false, false, false] (by kernel_rfl) (by kernel_rfl) (by kernel_rfl) (EO.Y (YO.loadBox hS 2 rfl 89 1 1 (.slice (some a1) a4.length a2) 60 (by kernel_rfl) (by kernel_rfl) (by kernel_rfl) (by kernel_rfl)) ?_)
      have hC : Core B [Ass.own 3 (Kd.int .i64) a6 a5 a3] [] _ := ⟨_, _, hS.re [3] [] rfl sub_self⟩
      refine ⟨hC, ?_⟩
      refine ED.Y hN hF hC 10 4 #[true, true, true, true, true, true, true, true, true, true, true, false, true, true, true, false, false, false] (by kernel_rfl) (by kernel_rfl) rfl (fun _ _ _ hS => YO.idx 89 1 a1 a4.length a2 .i64 a0 62 (by kernel_rfl) (by kernel_rfl) (by kernel_rfl) (by kernel_rfl) b3 b9) ?_
      refine ED.one 11 3 #[true, true, true, true, true, true, true, true, true, true, true, true, true, true, true, false, false, false] (by kernel_rfl) (by kernel_rfl) (by kernel_rfl) (EO.Y (YO.loadHole hS 4 a1 (j := a0) rfl b3 94 63 (by kernel_rfl) (by kernel_rfl) (by kernel_rfl) (by kernel_rfl)) ?_)
      have hC : Core B [Ass.own 3 (Kd.int .i64) a6 a5 a3] [] _ := ⟨_, _, hS.re [3] [] rfl sub_self⟩
      refine ⟨hC, ?_⟩
      refine ED.one 15 2 #[true, true, true, true, true, true, true, true, true, true, true, true, true, true, true, true, false, false] (by kernel_rfl) (by kernel_rfl) (by kernel_rfl) (EO.append hS 94 94 96 32 1 kS96 b5 b6 (a4.getD a0.toNat []) rfl (some ⟨b8, 0, none⟩) 1 a8 (Rd.own 0 96 rfl) b7 c4 (fun f9 i7 => Ass.own 96 kS96 (some ⟨b8, 0, none⟩) 1 a8 :: Ass.own 96 kS96 f9 i7 b7 :: Ass.box 105 a7 [.slice a6 a3.length a5, .slice (some a1) a4.length a2] :: Ass.own 3 (Kd.int .i64) a6 a5 a3 :: Ass.holed 94 96 kS96 (some a1) a2 a4 a0.toNat (b5, (a4.getD a0.toNat []).length, b6) :: os) 67 (by kernel_rfl) (by kernel_rfl) (by kernel_rfl) (by kernel_rfl) c3 (fun _ _ => rfl) ?_)
      intro f9 i7 w hS
      have hC : Core B [Ass.own 3 (Kd.int .i64) a6 a5 a3] [] _ := ⟨_, _, hS.re [3] [] rfl sub_self⟩
      refine ⟨hC, ?_⟩
      refine ED.Y hN hF hC 16 1 #[true, true, true, true, true, true, true, true, true, true, true, true, true, true, true, true, true, false] (by kernel_rfl) (by kernel_rfl) rfl (fun _ _ _ hS => YO.idx 89 1 a1 a4.length a2 .i64 a0 68 (by kernel_rfl) (by kernel_rfl) (by kernel_rfl) (by kernel_rfl) b3 b9) ?_
      refine ED.one 17 0 #[true, true, true, true, true, true, true, true, true, true, true, true, true, true, true, true, true, true] (by kernel_rfl) (by kernel_rfl) (by kernel_rfl) (EO.closeEl hS 1 3 a1 a0 rfl rfl b3 b0 b4 (Ass.own 96 kS96 (some ⟨b8, 0, none⟩) 1 a8 :: Ass.box 105 a7 [.slice a6 a3.length a5, .slice (some a1) a4.length a2] :: Ass.own 3 (Kd.int .i64) a6 a5 a3 :: Ass.deep 94 96 kS96 (some a1) a2 b0 :: os) 94 (by kernel_rfl) (by kernel_rfl) (by kernel_rfl) (by kernel_rfl) rfl ?_)
      intro w hS
      have hS : St B w (Ass.own 96 kS96 (some ⟨b8, 0, none⟩) 1 a8 :: Ass.box 105 a7 [.slice a6 a3.length a5, .slice (some a1) b0.length a2] :: Ass.own 3 (Kd.int .i64) a6 a5 a3 :: Ass.deep 94 96 kS96 (some a1) a2 b0 :: os) (rs) := by simpa only [b4, List.length_set] using hS
      have hC : Core B [Ass.own 3 (Kd.int .i64) a6 a5 a3] [] _ := ⟨_, _, hS.re [2] [] rfl sub_self⟩
      refine ⟨hC, ?_⟩
      refine ED.keep [8, 54, 55, 56, 59, 60, 61, 62, 65, 66, 68] [(8, .int .i32 b1), (54, .pointer (some ⟨a7, 1, none⟩)), (55, .slice (some a1) a4.length a2), (56, .int .i64 a0), (59, .pointer (some ⟨a7, 1, none⟩)), (60, .slice (some a1) a4.length a2), (61, .int .i64 a0), (62, .pointer (some ((a1.add (a0.toNat * 1)).add 0))), (65, .agg #[.int .i64 a9, .int .i64 0, .int .i32 0, .int .i64 0]), (66, .slice (some ⟨b8, 0, none⟩) a8.length 1), (68, .pointer (some ((a1.add (a0.toNat * 1)).add 0)))] (by kernel_rfl) ?_
      refine ED.as' [(8, .int .i32 b1), (54, .pointer (some ⟨a7, 1, none⟩)), (55, .slice (some a1) b0.length a2), (56, .int .i64 a0), (59, .pointer (some ⟨a7, 1, none⟩)), (60, .slice (some a1) b0.length a2), (61, .int .i64 a0), (62, .pointer (some ((a1.add (a0.toNat * 1)).add 0))), (65, .agg #[.int .i64 a9, .int .i64 0, .int .i32 0, .int .i64 0]), (66, .slice (some ⟨b8, 0, none⟩) a8.length 1), (68, .pointer (some ((a1.add (a0.toNat * 1)).add 0)))] (by simp only [b4, List.length_set]) ?_
      refine ED.done (by kernel_rfl) ?_
      refine EQ.to ?_
      refine EQ.keep [8] [(8, .int .i32 b1)] (by kernel_rfl) ?_
      exact fun a ha => ⟨(some ⟨b8, 0, none⟩), 1, ha, (hS.re [3, 3, 3, 3] [] rfl (sub_self))⟩
     ·refine EO.Y (YO.loadBox hS 2 rfl 89 1 1 (.slice (some a1) a4.length a2) 60 (by kernel_rfl) (by kernel_rfl) (by kernel_rfl) (by kernel_rfl)) ?_
      have hC : Core B [Ass.own 3 (Kd.int .i64) a6 a5 a3] [] _ := ⟨_, _, hS.re [3] [] rfl sub_self⟩
      refine ⟨hC, ?_⟩
      refine ED.at' #[true, true, true, false, true, true, true, true, true, true, false, false, true, true, true, false, false, false] (by kernel_rfl) ?_
      refine ED.Y hN hF hC 10 5 #[true, true, true, false, true, true, true, true, true, true, true, false, true, true, true, false, false, false] (by kernel_rfl) (by kernel_rfl) rfl (fun _ _ _ hS => YO.idx 89 1 a1 a4.length a2 .i64 a0 62 (by kernel_rfl) (by kernel_rfl) (by kernel_rfl) (by kernel_rfl) b3 b9) ?_
      refine ED.two 3 11 4 (by kernel_rfl) (by kernel_rfl) ?_ ?_
      ·refine EO.Y (YO.loadBox hS 2 rfl 89 1 1 (.slice (some a1) a4.length a2) 55 (by kernel_rfl) (by kernel_rfl) (by kernel_rfl) (by kernel_rfl)) ?_
       have hC : Core B [Ass.own 3 (Kd.int .i64) a6 a5 a3] [] _ := ⟨_, _, hS.re [3] [] rfl sub_self⟩
       refine ⟨hC, ?_⟩
       refine ED.at' #[true, true, true, true, true, true, true, true, true, true, true, false, true, true, true, false, false, false] (by kernel_rfl) ?_
       refine ED.one 11 3 #[true, true, true, true, true, true, true, true, true, true, true, true, true, true, true, false, false, false] (by kernel_rfl) (by kernel_rfl) (by kernel_rfl) (EO.Y (YO.loadHole hS 4 a1 (j := a0) rfl b3 94 63 (by kernel_rfl) (by kernel_rfl) (by kernel_rfl) (by kernel_rfl)) ?_)
       have hC : Core B [Ass.own 3 (Kd.int .i64) a6 a5 a3] [] _ := ⟨_, _, hS.re [3] [] rfl sub_self⟩
       refine ⟨hC, ?_⟩
       refine ED.one 15 2 #[true, true, true, true, true, true, true, true, true, true, true, true, true, true, true, true, false, false] (by kernel_rfl) (by kernel_rfl) (by kernel_rfl) (EO.append hS 94 94 96 32 1 kS96 b5 b6 (a4.getD a0.toNat []) rfl (some ⟨b8, 0, none⟩) 1 a8 (Rd.own 0 96 rfl) b7 c4 (fun g0 i8 => Ass.own 96 kS96 (some ⟨b8, 0, none⟩) 1 a8 :: Ass.own 96 kS96 g0 i8 b7 :: Ass.box 105 a7 [.slice a6 a3.length a5, .slice (some a1) a4.length a2] :: Ass.own 3 (Kd.int .i64) a6 a5 a3 :: Ass.holed 94 96 kS96 (some a1) a2 a4 a0.toNat (b5, (a4.getD a0.toNat []).length, b6) :: os) 67 (by kernel_rfl) (by kernel_rfl) (by kernel_rfl) (by kernel_rfl) c3 (fun _ _ => rfl) ?_)
       intro g0 i8 w hS
       have hC : Core B [Ass.own 3 (Kd.int .i64) a6 a5 a3] [] _ := ⟨_, _, hS.re [3] [] rfl sub_self⟩
       refine ⟨hC, ?_⟩
       refine ED.Y hN hF hC 16 1 #[true, true, true, true, true, true, true, true, true, true, true, true, true, true, true, true, true, false] (by kernel_rfl) (by kernel_rfl) rfl (fun _ _ _ hS => YO.idx 89 1 a1 a4.length a2 .i64 a0 68 (by kernel_rfl) (by kernel_rfl) (by kernel_rfl) (by kernel_rfl) b3 b9) ?_
       refine ED.one 17 0 #[true, true, true, true, true, true, true, true, true, true, true, true, true, true, true, true, true, true] (by kernel_rfl) (by kernel_rfl) (by kernel_rfl) (EO.closeEl hS 1 3 a1 a0 rfl rfl b3 b0 b4 (Ass.own 96 kS96 (some ⟨b8, 0, none⟩) 1 a8 :: Ass.box 105 a7 [.slice a6 a3.length a5, .slice (some a1) a4.length a2] :: Ass.own 3 (Kd.int .i64) a6 a5 a3 :: Ass.deep 94 96 kS96 (some a1) a2 b0 :: os) 94 (by kernel_rfl) (by kernel_rfl) (by kernel_rfl) (by kernel_rfl) rfl ?_)
       intro w hS
       have hS : St B w (Ass.own 96 kS96 (some ⟨b8, 0, none⟩) 1 a8 :: Ass.box 105 a7 [.slice a6 a3.length a5, .slice (some a1) b0.length a2] :: Ass.own 3 (Kd.int .i64) a6 a5 a3 :: Ass.deep 94 96 kS96 (some a1) a2 b0 :: os) (rs) := by simpa only [b4, List.length_set] using hS
       have hC : Core B [Ass.own 3 (Kd.int .i64) a6 a5 a3] [] _ := ⟨_, _, hS.re [2] [] rfl sub_self⟩
       refine ⟨hC, ?_⟩
       refine ED.keep [8, 54, 55, 56, 59, 60, 61, 62, 65, 66, 68] [(8, .int .i32 b1), (54, .pointer (some ⟨a7, 1, none⟩)), (55, .slice (some a1) a4.length a2), (56, .int .i64 a0), (59, .pointer (some ⟨a7, 1, none⟩)), (60, .slice (some a1) a4.length a2), (61, .int .i64 a0), (62, .pointer (some ((a1.add (a0.toNat * 1)).add 0))), (65, .agg #[.int .i64 a9, .int .i64 0, .int .i32 0, .int .i64 0]), (66, .slice (some ⟨b8, 0, none⟩) a8.length 1), (68, .pointer (some ((a1.add (a0.toNat * 1)).add 0)))] (by kernel_rfl) ?_
       refine ED.as' [(8, .int .i32 b1), (54, .pointer (some ⟨a7, 1, none⟩)), (55, .slice (some a1) b0.length a2), (56, .int .i64 a0), (59, .pointer (some ⟨a7, 1, none⟩)), (60, .slice (some a1) b0.length a2), (61, .int .i64 a0), (62, .pointer (some ((a1.add (a0.toNat * 1)).add 0))), (65, .agg #[.int .i64 a9, .int .i64 0, .int .i32 0, .int .i64 0]), (66, .slice (some ⟨b8, 0, none⟩) a8.length 1), (68, .pointer (some ((a1.add (a0.toNat * 1)).add 0)))] (by simp only [b4, List.length_set]) ?_
       refine ED.done (by kernel_rfl) ?_
       refine EQ.to ?_
       refine EQ.keep [8] [(8, .int .i32 b1)] (by kernel_rfl) ?_
       exact fun a ha => ⟨(some ⟨b8, 0, none⟩), 1, ha, (hS.re [3, 3, 3, 3] [] rfl (sub_self))⟩
      ·refine EO.Y (YO.loadHole hS 4 a1 (j := a0) rfl b3 94 63 (by kernel_rfl) (by kernel_rfl) (by kernel_rfl) (by kernel_rfl)) ?_
       have hC : Core B [Ass.own 3 (Kd.int .i64) a6 a5 a3] [] _ := ⟨_, _, hS.re [3] [] rfl sub_self⟩
       refine ⟨hC, ?_⟩
       refine ED.at' #[true, true, true, false, true, true, true, true, true, true, true, true, true, true, true, false, false, false] (by kernel_rfl) ?_
       refine ED.two 3 15 3 (by kernel_rfl) (by kernel_rfl) ?_ ?_
       ·refine EO.Y (YO.loadBox hS 2 rfl 89 1 1 (.slice (some a1) a4.length a2) 55 (by kernel_rfl) (by kernel_rfl) (by kernel_rfl) (by kernel_rfl)) ?_
        have hC : Core B [Ass.own 3 (Kd.int .i64) a6 a5 a3] [] _ := ⟨_, _, hS.re [3] [] rfl sub_self⟩
        refine ⟨hC, ?_⟩
        refine ED.at' #[true, true, true, true, true, true, true, true, true, true, true, true, true, true, true, false, false, false] (by kernel_rfl) ?_
        refine ED.one 15 2 #[true, true, true, true, true, true, true, true, true, true, true, true, true, true, true, true, false, false] (by kernel_rfl) (by kernel_rfl) (by kernel_rfl) (EO.append hS 94 94 96 32 1 kS96 b5 b6 (a4.getD a0.toNat []) rfl (some ⟨b8, 0, none⟩) 1 a8 (Rd.own 0 96 rfl) b7 c4 (fun g1 i9 => Ass.own 96 kS96 (some ⟨b8, 0, none⟩) 1 a8 :: Ass.own 96 kS96 g1 i9 b7 :: Ass.box 105 a7 [.slice a6 a3.length a5, .slice (some a1) a4.length a2] :: Ass.own 3 (Kd.int .i64) a6 a5 a3 :: Ass.holed 94 96 kS96 (some a1) a2 a4 a0.toNat (b5, (a4.getD a0.toNat []).length, b6) :: os) 67 (by kernel_rfl) (by kernel_rfl) (by kernel_rfl) (by kernel_rfl) c3 (fun _ _ => rfl) ?_)
        intro g1 i9 w hS
        have hC : Core B [Ass.own 3 (Kd.int .i64) a6 a5 a3] [] _ := ⟨_, _, hS.re [3] [] rfl sub_self⟩
        refine ⟨hC, ?_⟩
        refine ED.Y hN hF hC 16 1 #[true, true, true, true, true, true, true, true, true, true, true, true, true, true, true, true, true, false] (by kernel_rfl) (by kernel_rfl) rfl (fun _ _ _ hS => YO.idx 89 1 a1 a4.length a2 .i64 a0 68 (by kernel_rfl) (by kernel_rfl) (by kernel_rfl) (by kernel_rfl) b3 b9) ?_
        refine ED.one 17 0 #[true, true, true, true, true, true, true, true, true, true, true, true, true, true, true, true, true, true] (by kernel_rfl) (by kernel_rfl) (by kernel_rfl) (EO.closeEl hS 1 3 a1 a0 rfl rfl b3 b0 b4 (Ass.own 96 kS96 (some ⟨b8, 0, none⟩) 1 a8 :: Ass.box 105 a7 [.slice a6 a3.length a5, .slice (some a1) a4.length a2] :: Ass.own 3 (Kd.int .i64) a6 a5 a3 :: Ass.deep 94 96 kS96 (some a1) a2 b0 :: os) 94 (by kernel_rfl) (by kernel_rfl) (by kernel_rfl) (by kernel_rfl) rfl ?_)
        intro w hS
        have hS : St B w (Ass.own 96 kS96 (some ⟨b8, 0, none⟩) 1 a8 :: Ass.box 105 a7 [.slice a6 a3.length a5, .slice (some a1) b0.length a2] :: Ass.own 3 (Kd.int .i64) a6 a5 a3 :: Ass.deep 94 96 kS96 (some a1) a2 b0 :: os) (rs) := by simpa only [b4, List.length_set] using hS
        have hC : Core B [Ass.own 3 (Kd.int .i64) a6 a5 a3] [] _ := ⟨_, _, hS.re [2] [] rfl sub_self⟩
        refine ⟨hC, ?_⟩
        refine ED.keep [8, 54, 55, 56, 59, 60, 61, 62, 65, 66, 68] [(8, .int .i32 b1), (54, .pointer (some ⟨a7, 1, none⟩)), (55, .slice (some a1) a4.length a2), (56, .int .i64 a0), (59, .pointer (some ⟨a7, 1, none⟩)), (60, .slice (some a1) a4.length a2), (61, .int .i64 a0), (62, .pointer (some ((a1.add (a0.toNat * 1)).add 0))), (65, .agg #[.int .i64 a9, .int .i64 0, .int .i32 0, .int .i64 0]), (66, .slice (some ⟨b8, 0, none⟩) a8.length 1), (68, .pointer (some ((a1.add (a0.toNat * 1)).add 0)))] (by kernel_rfl) ?_
        refine ED.as' [(8, .int .i32 b1), (54, .pointer (some ⟨a7, 1, none⟩)), (55, .slice (some a1) b0.length a2), (56, .int .i64 a0), (59, .pointer (some ⟨a7, 1, none⟩)), (60, .slice (some a1) b0.length a2), (61, .int .i64 a0), (62, .pointer (some ((a1.add (a0.toNat * 1)).add 0))), (65, .agg #[.int .i64 a9, .int .i64 0, .int .i32 0, .int .i64 0]), (66, .slice (some ⟨b8, 0, none⟩) a8.length 1), (68, .pointer (some ((a1.add (a0.toNat * 1)).add 0)))] (by simp only [b4, List.length_set]) ?_
        refine ED.done (by kernel_rfl) ?_
        refine EQ.to ?_
        refine EQ.keep [8] [(8, .int .i32 b1)] (by kernel_rfl) ?_
        exact fun a ha => ⟨(some ⟨b8, 0, none⟩), 1, ha, (hS.re [3, 3, 3, 3] [] rfl (sub_self))⟩
       ·refine EO.append hS 94 94 96 32 1 kS96 b5 b6 (a4.getD a0.toNat []) rfl (some ⟨b8, 0, none⟩) 1 a8 (Rd.own 0 96 rfl) b7 c4 (fun g2 j0 => Ass.own 96 kS96 (some ⟨b8, 0, none⟩) 1 a8 :: Ass.own 96 kS96 g2 j0 b7 :: Ass.box 105 a7 [.slice a6 a3.length a5, .slice (some a1) a4.length a2] :: Ass.own 3 (Kd.int .i64) a6 a5 a3 :: Ass.holed 94 96 kS96 (some a1) a2 a4 a0.toNat (b5, (a4.getD a0.toNat []).length, b6) :: os) 67 (by kernel_rfl) (by kernel_rfl) (by kernel_rfl) (by kernel_rfl) c3 (fun _ _ => rfl) ?_
        intro g2 j0 w hS
        have hC : Core B [Ass.own 3 (Kd.int .i64) a6 a5 a3] [] _ := ⟨_, _, hS.re [3] [] rfl sub_self⟩
        refine ⟨hC, ?_⟩
        refine ED.at' #[true, true, true, false, true, true, true, true, true, true, true, true, true, true, true, true, false, false] (by kernel_rfl) ?_
        refine ED.one 3 2 #[true, true, true, true, true, true, true, true, true, true, true, true, true, true, true, true, false, false] (by kernel_rfl) (by kernel_rfl) (by kernel_rfl) (EO.Y (YO.loadBox hS 2 rfl 89 1 1 (.slice (some a1) a4.length a2) 55 (by kernel_rfl) (by kernel_rfl) (by kernel_rfl) (by kernel_rfl)) ?_)
        have hC : Core B [Ass.own 3 (Kd.int .i64) a6 a5 a3] [] _ := ⟨_, _, hS.re [3] [] rfl sub_self⟩
        refine ⟨hC, ?_⟩
        refine ED.Y hN hF hC 16 1 #[true, true, true, true, true, true, true, true, true, true, true, true, true, true, true, true, true, false] (by kernel_rfl) (by kernel_rfl) rfl (fun _ _ _ hS => YO.idx 89 1 a1 a4.length a2 .i64 a0 68 (by kernel_rfl) (by kernel_rfl) (by kernel_rfl) (by kernel_rfl) b3 b9) ?_
        refine ED.one 17 0 #[true, true, true, true, true, true, true, true, true, true, true, true, true, true, true, true, true, true] (by kernel_rfl) (by kernel_rfl) (by kernel_rfl) (EO.closeEl hS 1 3 a1 a0 rfl rfl b3 b0 b4 (Ass.own 96 kS96 (some ⟨b8, 0, none⟩) 1 a8 :: Ass.box 105 a7 [.slice a6 a3.length a5, .slice (some a1) a4.length a2] :: Ass.own 3 (Kd.int .i64) a6 a5 a3 :: Ass.deep 94 96 kS96 (some a1) a2 b0 :: os) 94 (by kernel_rfl) (by kernel_rfl) (by kernel_rfl) (by kernel_rfl) rfl ?_)
        intro w hS
        have hS : St B w (Ass.own 96 kS96 (some ⟨b8, 0, none⟩) 1 a8 :: Ass.box 105 a7 [.slice a6 a3.length a5, .slice (some a1) b0.length a2] :: Ass.own 3 (Kd.int .i64) a6 a5 a3 :: Ass.deep 94 96 kS96 (some a1) a2 b0 :: os) (rs) := by simpa only [b4, List.length_set] using hS
        have hC : Core B [Ass.own 3 (Kd.int .i64) a6 a5 a3] [] _ := ⟨_, _, hS.re [2] [] rfl sub_self⟩
        refine ⟨hC, ?_⟩
        refine ED.keep [8, 54, 55, 56, 59, 60, 61, 62, 65, 66, 68] [(8, .int .i32 b1), (54, .pointer (some ⟨a7, 1, none⟩)), (55, .slice (some a1) a4.length a2), (56, .int .i64 a0), (59, .pointer (some ⟨a7, 1, none⟩)), (60, .slice (some a1) a4.length a2), (61, .int .i64 a0), (62, .pointer (some ((a1.add (a0.toNat * 1)).add 0))), (65, .agg #[.int .i64 a9, .int .i64 0, .int .i32 0, .int .i64 0]), (66, .slice (some ⟨b8, 0, none⟩) a8.length 1), (68, .pointer (some ((a1.add (a0.toNat * 1)).add 0)))] (by kernel_rfl) ?_
        refine ED.as' [(8, .int .i32 b1), (54, .pointer (some ⟨a7, 1, none⟩)), (55, .slice (some a1) b0.length a2), (56, .int .i64 a0), (59, .pointer (some ⟨a7, 1, none⟩)), (60, .slice (some a1) b0.length a2), (61, .int .i64 a0), (62, .pointer (some ((a1.add (a0.toNat * 1)).add 0))), (65, .agg #[.int .i64 a9, .int .i64 0, .int .i32 0, .int .i64 0]), (66, .slice (some ⟨b8, 0, none⟩) a8.length 1), (68, .pointer (some ((a1.add (a0.toNat * 1)).add 0)))] (by simp only [b4, List.length_set]) ?_
        refine ED.done (by kernel_rfl) ?_
        refine EQ.to ?_
        refine EQ.keep [8] [(8, .int .i32 b1)] (by kernel_rfl) ?_
        exact fun a ha => ⟨(some ⟨b8, 0, none⟩), 1, ha, (hS.re [3, 3, 3, 3] [] rfl (sub_self))⟩
   ·obtain ⟨e7, g5, ha, hS⟩ := hI
    refine EQ.at ?_ a ha
    clear ha a
    refine EQ.code ?_
    refine EW.seq (x := Cd19.r.r.r.r.l) (y := Cd19.r.r.r.r.r) (by kernel_rfl) ?_
    refine EW.region (id := 5) (ops := Cd19.r.r.r.r.l.ops) (by kernel_rfl) ?_
    refine EL.quick 3 [6, 7] [(6, .int .i32 b1), (7, .bool (true))] (by kernel_rfl) ?_
    refine EL.done (by kernel_rfl) ?_
    refine EQ.code ?_
    refine EW.ret (by kernel_rfl) ?_
    simp only [Option.some.injEq, Prod.mk.injEq] at H
    obtain ⟨rfl, rfl, rfl⟩ := H
    exact EQ.leave (.tuple #[.int .i32 b1, .bool (true)]) (by kernel_rfl) ⟨_, rfl, (some a1), a2, rfl, (hS.re [3, 3, 3] [3] rfl (sub_self))⟩

/-! ### confidant/confidantref9.Label: function 69 -/
def confidantref9_Label.f (K : Nat) (a0 : Int) : Option Int := if a0 < 0 then (some (-1)) else (some (IntKind.i64.wrap (IntKind.i32.wrap (Int.tdiv a0 65536))))
set_option maxRecDepth 100000 in
theorem confidantref9_Label.calls {K : Nat} {a0 : Int} {a2 : Int} {B w : World} {os : List Ass} {rs : List Ro} (H : confidantref9_Label.f K a0 = some a2) (hS : St B w (os) (rs)) :
  Calls Try.prog 69 [.int .i32 a0].toArray w (fun en w' => ∃ v, en = .returned v ∧ v = .int .i64 a2 ∧ St B w' (os) (rs)) := by
 unfold confidantref9_Label.f at H
 refine calls_of_EW (args := [.int .i32 a0]) (c := Cd69) 8 Try.func69 (by kernel_rfl) (by kernel_rfl) (by kernel_rfl) ?_
 refine EW.seq (x := Cd69.l) (y := Cd69.r) (by kernel_rfl) ?_
 refine EW.region (id := 0) (ops := Cd69.l.ops) (by kernel_rfl) ?_
 refine EL.quick 1 [0] [(0, .int .i32 a0)] (by kernel_rfl) ?_
 refine EL.done (by kernel_rfl) ?_
 refine EQ.code ?_
 refine EW.seq (x := Cd69.r.l) (y := Cd69.r.r) (by kernel_rfl) ?_
 refine EW.seq (x := Cd69.r.l.l) (y := Cd69.r.l.r) (by kernel_rfl) ?_
 refine EW.region (id := 1) (ops := Cd69.r.l.l.ops) (by kernel_rfl) ?_
 refine EL.quick 2 [0, 4] [(0, .int .i32 a0), (4, .bool (decide (a0 < 0)))] (by kernel_rfl) ?_
 refine EL.done (by kernel_rfl) ?_
 refine EQ.code ?_
 refine EW.condP (o := (.tmp 4)) (x := Cd69.r.l.r.l) (y := Cd69.r.l.r.r) (a0 < 0) (by kernel_rfl) (by kernel_rfl) (fun a1 => ?_) (fun a1 => ?_)
 ·rw [if_pos a1] at H
  refine EW.seq (x := Cd69.r.l.r.l.l) (y := Cd69.r.l.r.l.r) (by kernel_rfl) ?_
  refine EW.region (id := 2) (ops := Cd69.r.l.r.l.l.ops) (by kernel_rfl) ?_
  refine EL.quick 1 [2] [(2, .int .i64 (-1))] (by kernel_rfl) ?_
  refine EL.done (by kernel_rfl) ?_
  refine EQ.code ?_
  refine EW.ret (by kernel_rfl) ?_
  refine EQ.ret ?_
  obtain rfl := Option.some.inj H
  exact EQ.leave (.int .i64 (-1)) (by kernel_rfl) ⟨_, rfl, rfl, (hS.re [] [] rfl (sub_self))⟩
 ·rw [if_neg a1] at H
  refine EW.skip (by kernel_rfl) ?_
  refine EQ.code ?_
  refine EW.seq (x := Cd69.r.r.l) (y := Cd69.r.r.r) (by kernel_rfl) ?_
  refine EW.region (id := 3) (ops := Cd69.r.r.l.ops) (by kernel_rfl) ?_
  refine EL.quick 4 [2] [(2, .int .i64 (IntKind.i64.wrap (IntKind.i32.wrap (Int.tdiv a0 65536))))] (by kernel_rfl) ?_
  refine EL.done (by kernel_rfl) ?_
  refine EQ.code ?_
  refine EW.ret (by kernel_rfl) ?_
  obtain rfl := Option.some.inj H
  exact EQ.leave (.int .i64 (IntKind.i64.wrap (IntKind.i32.wrap (Int.tdiv a0 65536)))) (by kernel_rfl) ⟨_, rfl, rfl, (hS.re [] [] rfl (sub_self))⟩

/-! ### confidant/confidantref9.Valid: function 67 -/
def confidantref9_Valid.f (K : Nat) (a0 : Int) (a1 : Int) : Option Bool := if a0 ≥ 0 then (b1 (confidantref9_Label.f K a0) fun (a3 : Int) => (some (decide (a3 < (mn a1 16))))) else (some false)
set_option maxRecDepth 100000 in
theorem confidantref9_Valid.calls {K : Nat} {a0 : Int} {a1 : Int} {a4 : Bool} {B w : World} {os : List Ass} {rs : List Ro} (H : confidantref9_Valid.f K a0 a1 = some a4) (hS : St B w (os) (rs)) :
  Calls Try.prog 67 [.int .i32 a0, .int .i64 a1].toArray w (fun en w' => ∃ v, en = .returned v ∧ v = .bool (a4) ∧ St B w' (os) (rs)) := by
 unfold confidantref9_Valid.f at H
 refine calls_of_EW (args := [.int .i32 a0, .int .i64 a1]) (c := Cd67) 14 Try.func67 (by kernel_rfl) (by kernel_rfl) (by kernel_rfl) ?_
 refine EW.seq (x := Cd67.l) (y := Cd67.r) (by kernel_rfl) ?_
 refine EW.region (id := 0) (ops := Cd67.l.ops) (by kernel_rfl) ?_
 refine EL.quick 1 [0, 1] [(0, .int .i32 a0), (1, .int .i64 a1)] (by kernel_rfl) ?_
 refine EL.done (by kernel_rfl) ?_
 refine EQ.code ?_
 refine EW.seq (x := Cd67.r.l) (y := Cd67.r.r) (by kernel_rfl) ?_
 refine EW.region (id := 1) (ops := Cd67.r.l.ops) (by kernel_rfl) ?_
 refine EL.quick 3 [0, 1, 7] [(0, .int .i32 a0), (1, .int .i64 a1), (7, .bool (decide (a0 ≥ 0)))] (by kernel_rfl) ?_
 by_cases a2 : a0 ≥ 0
 ·rw [if_pos a2] at H
  refine EL.keep [0, 1, 7] [(0, .int .i32 a0), (1, .int .i64 a1), (7, .bool (decide (a0 ≥ 0)))] (by kernel_rfl) ?_
  refine EL.as' [(0, .int .i32 a0), (1, .int .i64 a1), (7, .bool (true))] (by simp only [dec_t a2, Bool.not_true, Bool.not_false]) ?_
  refine EL.quick 1 [1, 7, 8] [(1, .int .i64 a1), (7, .bool (true)), (8, .int .i32 a0)] (by kernel_rfl) ?_
  obtain ⟨a3, a5, H⟩ := b1_out H
  refine EL.of (EO.callD 69 [.int .i32 a0] _ 9 (by kernel_rfl) (by kernel_rfl) (by kernel_rfl) (confidantref9_Label.calls a5 hS) ?_)
  rintro v w ⟨rfl, hS⟩
  refine EL.quick 5 [4] [(4, .bool (decide (a3 < (mn a1 16))))] (by kernel_rfl) ?_
  refine EL.done (by kernel_rfl) ?_
  refine EQ.code ?_
  refine EW.ret (by kernel_rfl) ?_
  obtain rfl := Option.some.inj H
  exact EQ.leave (.bool (decide (a3 < (mn a1 16)))) (by kernel_rfl) ⟨_, rfl, rfl, (hS.re [] [] rfl (sub_self))⟩
 ·rw [if_neg a2] at H
  refine EL.keep [0, 1, 7] [(0, .int .i32 a0), (1, .int .i64 a1), (7, .bool (decide (a0 ≥ 0)))] (by kernel_rfl) ?_
  refine EL.as' [(0, .int .i32 a0), (1, .int .i64 a1), (7, .bool (false))] (by simp only [dec_f a2, Bool.not_true, Bool.not_false]) ?_
  refine EL.quick 7 [4] [(4, .bool (false))] (by kernel_rfl) ?_
  refine EL.done (by kernel_rfl) ?_
  refine EQ.code ?_
  refine EW.ret (by kernel_rfl) ?_
  obtain rfl := Option.some.inj H
  exact EQ.leave (.bool (false)) (by kernel_rfl) ⟨_, rfl, rfl, (hS.re [] [] rfl (sub_self))⟩

/-! ### confidant/confidantref9.Number: function 68 -/
def confidantref9_Number.f (K : Nat) (a0 : Int) : Option Int := if a0 < 0 then (some (-1)) else (some (IntKind.i64.wrap (Int.tmod a0 65536)))
set_option maxRecDepth 100000 in
theorem confidantref9_Number.calls {K : Nat} {a0 : Int} {a2 : Int} {B w : World} {os : List Ass} {rs : List Ro} (H : confidantref9_Number.f K a0 = some a2) (hS : St B w (os) (rs)) :
  Calls Try.prog 68 [.int .i32 a0].toArray w (fun en w' => ∃ v, en = .returned v ∧ v = .int .i64 a2 ∧ St B w' (os) (rs)) := by
 unfold confidantref9_Number.f at H
 refine calls_of_EW (args := [.int .i32 a0]) (c := Cd68) 8 Try.func68 (by kernel_rfl) (by kernel_rfl) (by kernel_rfl) ?_
 refine EW.seq (x := Cd68.l) (y := Cd68.r) (by kernel_rfl) ?_
 refine EW.region (id := 0) (ops := Cd68.l.ops) (by kernel_rfl) ?_
 refine EL.quick 1 [0] [(0, .int .i32 a0)] (by kernel_rfl) ?_
 refine EL.done (by kernel_rfl) ?_
 refine EQ.code ?_
 refine EW.seq (x := Cd68.r.l) (y := Cd68.r.r) (by kernel_rfl) ?_
 refine EW.seq (x := Cd68.r.l.l) (y := Cd68.r.l.r) (by kernel_rfl) ?_
 refine EW.region (id := 1) (ops := Cd68.r.l.l.ops) (by kernel_rfl) ?_
 refine EL.quick 2 [0, 4] [(0, .int .i32 a0), (4, .bool (decide (a0 < 0)))] (by kernel_rfl) ?_
 refine EL.done (by kernel_rfl) ?_
 refine EQ.code ?_
 refine EW.condP (o := (.tmp 4)) (x := Cd68.r.l.r.l) (y := Cd68.r.l.r.r) (a0 < 0) (by kernel_rfl) (by kernel_rfl) (fun a1 => ?_) (fun a1 => ?_)
 ·rw [if_pos a1] at H
  refine EW.seq (x := Cd68.r.l.r.l.l) (y := Cd68.r.l.r.l.r) (by kernel_rfl) ?_
  refine EW.region (id := 2) (ops := Cd68.r.l.r.l.l.ops) (by kernel_rfl) ?_
  refine EL.quick 1 [2] [(2, .int .i64 (-1))] (by kernel_rfl) ?_
  refine EL.done (by kernel_rfl) ?_
  refine EQ.code ?_
  refine EW.ret (by kernel_rfl) ?_
  refine EQ.ret ?_
  obtain rfl := Option.some.inj H
  exact EQ.leave (.int .i64 (-1)) (by kernel_rfl) ⟨_, rfl, rfl, (hS.re [] [] rfl (sub_self))⟩
 ·rw [if_neg a1] at H
  refine EW.skip (by kernel_rfl) ?_
  refine EQ.code ?_
  refine EW.seq (x := Cd68.r.r.l) (y := Cd68.r.r.r) (by kernel_rfl) ?_
  refine EW.region (id := 3) (ops := Cd68.r.r.l.ops) (by kernel_rfl) ?_
  refine EL.quick 4 [2] [(2, .int .i64 (IntKind.i64.wrap (Int.tmod a0 65536)))] (by kernel_rfl) ?_
  refine EL.done (by kernel_rfl) ?_
  refine EQ.code ?_
  refine EW.ret (by kernel_rfl) ?_
  obtain rfl := Option.some.inj H
  exact EQ.leave (.int .i64 (IntKind.i64.wrap (Int.tmod a0 65536))) (by kernel_rfl) ⟨_, rfl, rfl, (hS.re [] [] rfl (sub_self))⟩

/-! ### (*confidant/confidantref12.Futures).Get: function 48 -/
def confidantref12_Futures_Get.f (K : Nat) (a2 : List Int) (a0 : List (List S96)) (a9 : Int) : Option (S96 × Bool) := lt (fun (c1 : Bool) => (if c1 = true then (some ((⟨0, 0, 0, 0⟩ : S96), false)) else (b1 (confidantref9_Label.f K a9) fun (a1 : Int) => (if 0 ≤ a1 then (if a1 < (a0.length : Int) then (b1 (confidantref9_Number.f K a9) fun (a5 : Int) => (if 0 ≤ a5 then (if a5 < ((a0.getD a1.toNat []).length : Int) then (some ((⟨((a0.getD a1.toNat []).getD a5.toNat zS96).f0, ((a0.getD a1.toNat []).getD a5.toNat zS96).f1, ((a0.getD a1.toNat []).getD a5.toNat zS96).f2, ((a0.getD a1.toNat []).getD a5.toNat zS96).f3⟩ : S96), true)) else none) else none)) else none) else none)))) fun c8 => (b1 (confidantref9_Valid.f K a9 (a0.length : Int)) fun (b5 : Bool) => (if b5 = true then (b1 (confidantref9_Number.f K a9) fun (c2 : Int) => (b1 (confidantref9_Label.f K a9) fun (b4 : Int) => (if 0 ≤ b4 then (if b4 < (a0.length : Int) then (c8 (decide (c2 ≥ ((a0.getD b4.toNat []).length : Int)))) else none) else none))) else (c8 true)))
set_option maxRecDepth 100000 in
theorem confidantref12_Futures_Get.calls {K : Nat} {a2 : List Int} {a0 : List (List S96)} {a9 : Int} {a6 : Nat} {a3 : Option Addr} {a4 : Nat} {b2 : Option Addr} {a7 : Nat} {c0 : S96} {d2 : Bool} {B w : World} {os : List Ass} {rs : List Ro} (H : confidantref12_Futures_Get.f K a2 a0 a9 = some (c0, d2)) (hS : St B w (Ass.box 105 a6 [.slice a3 a2.length a4, .slice b2 a0.length a7] :: Ass.own 3 (Kd.int .i64) a3 a4 a2 :: Ass.deep 94 96 kS96 b2 a7 a0 :: os) (rs)) :
  Calls Try.prog 48 [.pointer (some ⟨a6, 0, none⟩), .int .i32 a9].toArray w (fun en w' => ∃ v, en = .returned v ∧ v = .tuple #[.agg #[.int .i64 c0.f0, .int .i64 c0.f1, .int .i32 c0.f2, .int .i64 c0.f3], .bool (d2)] ∧ St B w' (Ass.box 105 a6 [.slice a3 a2.length a4, .slice b2 a0.length a7] :: Ass.own 3 (Kd.int .i64) a3 a4 a2 :: Ass.deep 94 96 kS96 b2 a7 a0 :: os) (rs)) := by
 unfold confidantref12_Futures_Get.f at H
 refine calls_of_EW (args := [.pointer (some ⟨a6, 0, none⟩), .int .i32 a9]) (c := Cd48) 41 Try.func48 (by kernel_rfl) (by kernel_rfl) (by kernel_rfl) ?_
 refine EW.seq (x := Cd48.l) (y := Cd48.r) (by kernel_rfl) ?_
 refine EW.region (id := 0) (ops := Cd48.l.ops) (by kernel_rfl) ?_
 refine EL.of (EO.alloc hS 96 (.agg #[.int .i64 0, .int .i64 0, .int .i32 0, .int .i64 0]) [.int .i64 0, .int .i64 0, .int .i32 0, .int .i64 0] 4 (by kernel_rfl) (by kernel_rfl) (by kernel_rfl) (by kernel_rfl) (by first | rfl | kernel_rfl) ?_)
 intro a8 w hS
 refine EL.quick 1 [0, 1, 4] [(0, .pointer (some ⟨a6, 0, none⟩)), (1, .int .i32 a9), (4, .pointer (some ⟨a8, 0, none⟩))] (by kernel_rfl) ?_
 refine EL.done (by kernel_rfl) ?_
 refine EQ.code ?_
 refine EW.seq (x := Cd48.r.l) (y := Cd48.r.r) (by kernel_rfl) ?_
 obtain ⟨c8, e2, H⟩ := lt_out H
 refine EW.cut (x := Cd48.r.l.l) (y := Cd48.r.l.r) (fun a w => ∃ c1 : Bool, Sat 41 [(0, .pointer (some ⟨a6, 0, none⟩)), (1, .int .i32 a9), (4, .pointer (some ⟨a8, 0, none⟩)), (27, .bool (c1))] a ∧ St B w (Ass.box 96 a8 [.int .i64 0, .int .i64 0, .int .i32 0, .int .i64 0] :: Ass.box 105 a6 [.slice a3 a2.length a4, .slice b2 a0.length a7] :: Ass.own 3 (Kd.int .i64) a3 a4 a2 :: Ass.deep 94 96 kS96 b2 a7 a0 :: os) (rs) ∧ c8 c1 = some (c0, d2)) (by kernel_rfl) ?_ (fun a w hI => ?_)
 ·obtain ⟨b5, d7, H⟩ := b1_out H
  by_cases c5 : b5 = true
  ·rw [if_pos c5] at H
   obtain ⟨c2, d9, H⟩ := b1_out H
   obtain ⟨b4, e0, H⟩ := b1_out H
   obtain ⟨c9, H⟩ := ite_in H
   obtain ⟨d0, H⟩ := ite_in H
   obtain ⟨b3, rfl⟩ := St.deep_some hS 3 rfl c9 d0
   have hS := hS.drew
   refine EW.draw (B := B) (id := 1) (ops := Cd48.r.l.l.ops) [Ass.box 96 a8 [.int .i64 0, .int .i64 0, .int .i32 0, .int .i64 0], Ass.box 105 a6 [.slice a3 a2.length a4, .slice (some b3) a0.length a7], Ass.own 3 (Kd.int .i64) a3 a4 a2] [] (by kernel_rfl) (by kernel_rfl) ?_
   have hN : Region.noSelect Cd48.r.l.l.ops = true := (by kernel_rfl)
   have hF : freeAll Cd48.r.l.l.ops = true := (by kernel_rfl)
   have hC : Core B [Ass.box 96 a8 [.int .i64 0, .int .i64 0, .int .i32 0, .int .i64 0], Ass.box 105 a6 [.slice a3 a2.length a4, .slice (some b3) a0.length a7], Ass.own 3 (Kd.int .i64) a3 a4 a2] [] _ := ⟨_, _, hS⟩
   refine ED.quick hN hF hC [0, 1, 2, 3] [0, 1, 4, 6, 9] 18 [(0, .pointer (some ⟨a6, 0, none⟩)), (1, .int .i32 a9), (4, .pointer (some ⟨a8, 0, none⟩)), (6, .int .i32 a9), (9, .pointer (some ⟨a6, 1, none⟩))] #[true, true, true, true, false, false, false, false, false, false, false, false, false, false, false, false, false, false, false, false, false, false] (by kernel_rfl) (by kernel_rfl) ?_
   refine ED.Y hN hF hC 4 17 #[true, true, true, true, true, false, false, false, false, false, false, false, false, false, false, false, false, false, false, false, false, false] (by kernel_rfl) (by kernel_rfl) rfl (fun _ _ _ hS => YO.loadBox hS 1 rfl 89 1 1 (.slice (some b3) a0.length a7) 10 (by kernel_rfl) (by kernel_rfl) (by kernel_rfl) (by kernel_rfl)) ?_
   refine ED.quick hN hF hC [5] [0, 1, 4, 6, 11] 16 [(0, .pointer (some ⟨a6, 0, none⟩)), (1, .int .i32 a9), (4, .pointer (some ⟨a8, 0, none⟩)), (6, .int .i32 a9), (11, .int .i64 (a0.length : Int))] #[true, true, true, true, true, true, false, false, false, false, false, false, false, false, false, false, false, false, false, false, false, false] (by kernel_rfl) (by kernel_rfl) ?_
   refine ED.one 6 15 #[true, true, true, true, true, true, true, false, false, false, false, false, false, false, false, false, false, false, false, false, false, false] (by kernel_rfl) (by kernel_rfl) (by kernel_rfl) (EO.callD 67 [.int .i32 a9, .int .i64 (a0.length : Int)] _ 12 (by kernel_rfl) (by kernel_rfl) (by kernel_rfl) (confidantref9_Valid.calls d7 hS) ?_)
   rintro v w ⟨rfl, hS⟩
   have hC : Core B [Ass.box 96 a8 [.int .i64 0, .int .i64 0, .int .i32 0, .int .i64 0], Ass.box 105 a6 [.slice a3 a2.length a4, .slice (some b3) a0.length a7], Ass.own 3 (Kd.int .i64) a3 a4 a2] [] _ := ⟨_, _, hS⟩
   refine ⟨hC, ?_⟩
   refine ED.quick hN hF hC [7, 8] [0, 1, 4, 14] 13 [(0, .pointer (some ⟨a6, 0, none⟩)), (1, .int .i32 a9), (4, .pointer (some ⟨a8, 0, none⟩)), (14, .bool (!(b5)))] #[true, true, true, true, true, true, true, true, true, false, false, false, false, false, false, false, false, false, false, false, false, false] (by kernel_rfl) (by kernel_rfl) ?_
   refine ED.keep [0, 1, 4, 14] [(0, .pointer (some ⟨a6, 0, none⟩)), (1, .int .i32 a9), (4, .pointer (some ⟨a8, 0, none⟩)), (14, .bool (!(b5)))] (by kernel_rfl) ?_
   refine ED.as' [(0, .pointer (some ⟨a6, 0, none⟩)), (1, .int .i32 a9), (4, .pointer (some ⟨a8, 0, none⟩)), (14, .bool (false))] (by simp only [c5, Bool.not_true, Bool.not_false]) ?_
   refine ED.quick hN hF hC [9, 11, 12, 13, 15] [0, 1, 4, 14, 15, 19, 21] 8 [(0, .pointer (some ⟨a6, 0, none⟩)), (1, .int .i32 a9), (4, .pointer (some ⟨a8, 0, none⟩)), (14, .bool (false)), (15, .int .i32 a9), (19, .pointer (some ⟨a6, 1, none⟩)), (21, .int .i32 a9)] #[true, true, true, true, true, true, true, true, true, true, false, true, true, true, false, true, false, false, false, false, false, false] (by kernel_rfl) (by kernel_rfl) ?_
   refine ED.Y hN hF hC 14 7 #[true, true, true, true, true, true, true, true, true, true, false, true, true, true, true, true, false, false, false, false, false, false] (by kernel_rfl) (by kernel_rfl) rfl (fun _ _ _ hS => YO.loadBox hS 1 rfl 89 1 1 (.slice (some b3) a0.length a7) 20 (by kernel_rfl) (by kernel_rfl) (by kernel_rfl) (by kernel_rfl)) ?_
   refine ED.one 10 6 #[true, true, true, true, true, true, true, true, true, true, true, true, true, true, true, true, false, false, false, false, false, false] (by kernel_rfl) (by kernel_rfl) (by kernel_rfl) (EO.callD 68 [.int .i32 a9] _ 16 (by kernel_rfl) (by kernel_rfl) (by kernel_rfl) (confidantref9_Number.calls d9 hS) ?_)
   rintro v w ⟨rfl, hS⟩
   have hC : Core B [Ass.box 96 a8 [.int .i64 0, .int .i64 0, .int .i32 0, .int .i64 0], Ass.box 105 a6 [.slice a3 a2.length a4, .slice (some b3) a0.length a7], Ass.own 3 (Kd.int .i64) a3 a4 a2] [] _ := ⟨_, _, hS⟩
   refine ⟨hC, ?_⟩
   refine ED.one 16 5 #[true, true, true, true, true, true, true, true, true, true, true, true, true, true, true, true, true, false, false, false, false, false] (by kernel_rfl) (by kernel_rfl) (by kernel_rfl) (EO.callD 69 [.int .i32 a9] _ 22 (by kernel_rfl) (by kernel_rfl) (by kernel_rfl) (confidantref9_Label.calls e0 hS) ?_)
   rintro v w ⟨rfl, hS⟩
   have hC : Core B [Ass.box 96 a8 [.int .i64 0, .int .i64 0, .int .i32 0, .int .i64 0], Ass.box 105 a6 [.slice a3 a2.length a4, .slice (some b3) a0.length a7], Ass.own 3 (Kd.int .i64) a3 a4 a2] [] _ := ⟨_, _, hS⟩
   refine ⟨hC, ?_⟩
   refine ED.Y hN hF hC 17 4 #[true, true, true, true, true, true, true, true, true, true, true, true, true, true, true, true, true, true, false, false, false, false] (by kernel_rfl) (by kernel_rfl) rfl (fun _ _ _ hS => YO.idx 89 1 b3 a0.length a7 .i64 b4 23 (by kernel_rfl) (by kernel_rfl) (by kernel_rfl) (by kernel_rfl) c9 d0) ?_
   refine ED.one 18 3 #[true, true, true, true, true, true, true, true, true, true, true, true, true, true, true, true, true, true, true, false, false, false] (by kernel_rfl) (by kernel_rfl) (by kernel_rfl) (EO.openEl hS 3 b3 rfl b4 c9 d0 (fun d3 d6 => Ass.box 96 a8 [.int .i64 0, .int .i64 0, .int .i32 0, .int .i64 0] :: Ass.box 105 a6 [.slice a3 a2.length a4, .slice (some b3) a0.length a7] :: Ass.own 3 (Kd.int .i64) a3 a4 a2 :: Ass.holed 94 96 kS96 (some b3) a7 a0 b4.toNat (d3, (a0.getD b4.toNat []).length, d6) :: os) 94 24 (by kernel_rfl) (by kernel_rfl) (by kernel_rfl) (by kernel_rfl) (fun _ _ => rfl) ?_)
   intro d3 d6 hS
   have hC : Core B [Ass.box 96 a8 [.int .i64 0, .int .i64 0, .int .i32 0, .int .i64 0], Ass.box 105 a6 [.slice a3 a2.length a4, .slice (some b3) a0.length a7], Ass.own 3 (Kd.int .i64) a3 a4 a2] [] _ := ⟨_, _, hS.re [3, 3, 3] [] rfl sub_self⟩
   refine ⟨hC, ?_⟩
   refine ED.quick hN hF hC [19, 20, 21] [0, 1, 4, 27] 0 [(0, .pointer (some ⟨a6, 0, none⟩)), (1, .int .i32 a9), (4, .pointer (some ⟨a8, 0, none⟩)), (27, .bool (decide (c2 ≥ ((a0.getD b4.toNat []).length : Int))))] #[true, true, true, true, true, true, true, true, true, true, true, true, true, true, true, true, true, true, true, true, true, true] (by kernel_rfl) (by kernel_rfl) ?_
   refine ED.done (by kernel_rfl) ?_
   refine EQ.to ?_
   have hS := St.as (os' := Ass.box 96 a8 [.int .i64 0, .int .i64 0, .int .i32 0, .int .i64 0] :: Ass.box 105 a6 [.slice a3 a2.length a4, .slice (some b3) a0.length a7] :: Ass.own 3 (Kd.int .i64) a3 a4 a2 :: Ass.deep 94 96 kS96 (some b3) a7 a0 :: os) (St.close hS 0 3 rfl rfl rfl a0 (set_getD _ _)) rfl
   refine EQ.keep [0, 1, 4, 27] [(0, .pointer (some ⟨a6, 0, none⟩)), (1, .int .i32 a9), (4, .pointer (some ⟨a8, 0, none⟩)), (27, .bool (decide (c2 ≥ ((a0.getD b4.toNat []).length : Int))))] (by kernel_rfl) ?_
   exact fun a ha => ⟨decide (c2 ≥ ((a0.getD b4.toNat []).length : Int)), ha, (hS.re [3, 3, 3, 3] [] rfl (sub_self)), H⟩
  ·rw [if_neg c5] at H
   have hS := hS.drew
   refine EW.draw (B := B) (id := 1) (ops := Cd48.r.l.l.ops) [Ass.box 96 a8 [.int .i64 0, .int .i64 0, .int .i32 0, .int .i64 0], Ass.box 105 a6 [.slice a3 a2.length a4, .slice b2 a0.length a7], Ass.own 3 (Kd.int .i64) a3 a4 a2, Ass.deep 94 96 kS96 b2 a7 a0] [] (by kernel_rfl) (by kernel_rfl) ?_
   have hN : Region.noSelect Cd48.r.l.l.ops = true := (by kernel_rfl)
   have hF : freeAll Cd48.r.l.l.ops = true := (by kernel_rfl)
   have hC : Core B [Ass.box 96 a8 [.int .i64 0, .int .i64 0, .int .i32 0, .int .i64 0], Ass.box 105 a6 [.slice a3 a2.length a4, .slice b2 a0.length a7], Ass.own 3 (Kd.int .i64) a3 a4 a2, Ass.deep 94 96 kS96 b2 a7 a0] [] _ := ⟨_, _, hS⟩
   refine ED.quick hN hF hC [0, 1, 2, 3] [0, 1, 4, 6, 9] 18 [(0, .pointer (some ⟨a6, 0, none⟩)), (1, .int .i32 a9), (4, .pointer (some ⟨a8, 0, none⟩)), (6, .int .i32 a9), (9, .pointer (some ⟨a6, 1, none⟩))] #[true, true, true, true, false, false, false, false, false, false, false, false, false, false, false, false, false, false, false, false, false, false] (by kernel_rfl) (by kernel_rfl) ?_
   refine ED.Y hN hF hC 4 17 #[true, true, true, true, true, false, false, false, false, false, false, false, false, false, false, false, false, false, false, false, false, false] (by kernel_rfl) (by kernel_rfl) rfl (fun _ _ _ hS => YO.loadBox hS 1 rfl 89 1 1 (.slice b2 a0.length a7) 10 (by kernel_rfl) (by kernel_rfl) (by kernel_rfl) (by kernel_rfl)) ?_
   refine ED.quick hN hF hC [5] [0, 1, 4, 6, 11] 16 [(0, .pointer (some ⟨a6, 0, none⟩)), (1, .int .i32 a9), (4, .pointer (some ⟨a8, 0, none⟩)), (6, .int .i32 a9), (11, .int .i64 (a0.length : Int))] #[true, true, true, true, true, true, false, false, false, false, false, false, false, false, false, false, false, false, false, false, false, false] (by kernel_rfl) (by kernel_rfl) ?_
   refine ED.one 6 15 #[true, true, true, true, true, true, true, false, false, false, false, false, false, false, false, false, false, false, false, false, false, false] (by kernel_rfl) (by kernel_rfl) (by kernel_rfl) (EO.callD 67 [.int .i32 a9, .int .i64 (a0.length : Int)] _ 12 (by kernel_rfl) (by kernel_rfl) (by kernel_rfl) (confidantref9_Valid.calls d7 hS) ?_)
   rintro v w ⟨rfl, hS⟩
   have hC : Core B [Ass.box 96 a8 [.int .i64 0, .int .i64 0, .int .i32 0, .int .i64 0], Ass.box 105 a6 [.slice a3 a2.length a4, .slice b2 a0.length a7], Ass.own 3 (Kd.int .i64) a3 a4 a2, Ass.deep 94 96 kS96 b2 a7 a0] [] _ := ⟨_, _, hS⟩
   refine ⟨hC, ?_⟩
   refine ED.quick hN hF hC [7, 8] [0, 1, 4, 14] 13 [(0, .pointer (some ⟨a6, 0, none⟩)), (1, .int .i32 a9), (4, .pointer (some ⟨a8, 0, none⟩)), (14, .bool (!(b5)))] #[true, true, true, true, true, true, true, true, true, false, false, false, false, false, false, false, false, false, false, false, false, false] (by kernel_rfl) (by kernel_rfl) ?_
   refine ED.keep [0, 1, 4, 14] [(0, .pointer (some ⟨a6, 0, none⟩)), (1, .int .i32 a9), (4, .pointer (some ⟨a8, 0, none⟩)), (14, .bool (!(b5)))] (by kernel_rfl) ?_
   refine ED.as' [(0, .pointer (some ⟨a6, 0, none⟩)), (1, .int .i32 a9), (4, .pointer (some ⟨a8, 0, none⟩)), (14, .bool (true))] (by simp only [(Bool.eq_false_iff.2 c5), Bool.not_true, Bool.not_false]) ?_
   refine ED.quick hN hF hC [9, 10, 11, 12, 13, 14, 15, 16, 17, 18, 19, 20, 21] [0, 1, 4, 27] 0 [(0, .pointer (some ⟨a6, 0, none⟩)), (1, .int .i32 a9), (4, .pointer (some ⟨a8, 0, none⟩)), (27, .bool (true))] #[true, true, true, true, true, true, true, true, true, true, true, true, true, true, true, true, true, true, true, true, true, true] (by kernel_rfl) (by kernel_rfl) ?_
   refine ED.done (by kernel_rfl) ?_
   refine EQ.to ?_
   refine EQ.keep [0, 1, 4, 27] [(0, .pointer (some ⟨a6, 0, none⟩)), (1, .int .i32 a9), (4, .pointer (some ⟨a8, 0, none⟩)), (27, .bool (true))] (by kernel_rfl) ?_
   exact fun a ha => ⟨true, ha, (hS.re [3, 3, 3, 3] [] rfl (sub_self)), H⟩
 ·obtain ⟨c1, ha, hS, H⟩ := hI
  rw [e2] at H
  (try dsimp only at H)
  refine EW.at ?_ a ha
  clear ha a
  refine EW.condP' (o := (.tmp 27)) (x := Cd48.r.l.r.l) (y := Cd48.r.l.r.r) (c1) (by kernel_rfl) (by kernel_rfl) (fun d1 => ?_) (fun d1 => ?_)
  ·rw [if_pos d1] at H
   refine EW.seq (x := Cd48.r.l.r.l.l) (y := Cd48.r.l.r.l.r) (by kernel_rfl) ?_
   refine EW.region (id := 2) (ops := Cd48.r.l.r.l.l.ops) (by kernel_rfl) ?_
   refine EL.quick 1 [4, 28] [(4, .pointer (some ⟨a8, 0, none⟩)), (28, .agg #[.int .i64 0, .int .i64 0, .int .i32 0, .int .i64 0])] (by kernel_rfl) ?_
   refine EL.of (EO.storeBox (os' := Ass.box 96 a8 [.int .i64 0, .int .i64 0, .int .i32 0, .int .i64 0] :: Ass.box 105 a6 [.slice a3 a2.length a4, .slice b2 a0.length a7] :: Ass.own 3 (Kd.int .i64) a3 a4 a2 :: Ass.deep 94 96 kS96 b2 a7 a0 :: os) hS 0 rfl 96 0 (.agg #[.int .i64 0, .int .i64 0, .int .i32 0, .int .i64 0]) [.int .i64 0, .int .i64 0, .int .i32 0, .int .i64 0] (by kernel_rfl) (by kernel_rfl) (by kernel_rfl) (by kernel_rfl) (by kernel_rfl) (by kernel_rfl) rfl rfl ?_)
   intro w hS
   refine EL.quick 1 [4, 5] [(4, .pointer (some ⟨a8, 0, none⟩)), (5, .bool (false))] (by kernel_rfl) ?_
   refine EL.done (by kernel_rfl) ?_
   refine EQ.code ?_
   refine EW.ret (by kernel_rfl) ?_
   refine EQ.ret ?_
   simp only [Option.some.injEq, Prod.mk.injEq] at H
   obtain ⟨rfl, rfl⟩ := H
   exact EQ.leave2 hS (.cell 4 96) (.tmp 5) (.agg #[.int .i64 0, .int .i64 0, .int .i32 0, .int .i64 0]) (.bool (false)) (by kernel_rfl) ⟨0, 96, a8, [.int .i64 0, .int .i64 0, .int .i32 0, .int .i64 0], 0, 4, rfl, (by kernel_rfl), (by kernel_rfl)⟩ (oneTmp (by kernel_rfl)) ⟨_, rfl, rfl, (hS.re [3, 3, 3] [3] rfl (sub_self))⟩
  ·rw [if_neg d1] at H
   refine EW.skip (by kernel_rfl) ?_
   refine EQ.code ?_
   refine EW.seq (x := Cd48.r.r.l) (y := Cd48.r.r.r) (by kernel_rfl) ?_
   obtain ⟨a1, e1, H⟩ := b1_out H
   obtain ⟨c6, H⟩ := ite_in H
   obtain ⟨c7, H⟩ := ite_in H
   obtain ⟨b0, rfl⟩ := St.deep_some hS 3 rfl c6 c7
   obtain ⟨a5, d8, H⟩ := b1_out H
   obtain ⟨b8, H⟩ := ite_in H
   obtain ⟨b9, H⟩ := ite_in H
   refine EW.meet (id := 3) (ops := Cd48.r.r.l.ops) (fun a w => Sat 41 [(4, .pointer (some ⟨a8, 0, none⟩)), (5, .bool (true))] a ∧ St B w (Ass.box 96 a8 [.int .i64 (((a0.getD a1.toNat []).getD a5.toNat zS96).f0), .int .i64 (((a0.getD a1.toNat []).getD a5.toNat zS96).f1), .int .i32 (((a0.getD a1.toNat []).getD a5.toNat zS96).f2), .int .i64 (((a0.getD a1.toNat []).getD a5.toNat zS96).f3)] :: Ass.box 105 a6 [.slice a3 a2.length a4, .slice (some b0) a0.length a7] :: Ass.own 3 (Kd.int .i64) a3 a4 a2 :: Ass.deep 94 96 kS96 (some b0) a7 a0 :: os) (rs)) (by kernel_rfl) ?_ (fun a w hI => ?_)
   ·have hS := hS.drew
    refine EW.draw (B := B) (id := 3) (ops := Cd48.r.r.l.ops) [Ass.box 105 a6 [.slice a3 a2.length a4, .slice (some b0) a0.length a7], Ass.own 3 (Kd.int .i64) a3 a4 a2] [] (by kernel_rfl) (by kernel_rfl) ?_
    have hN : Region.noSelect Cd48.r.r.l.ops = true := (by kernel_rfl)
    have hF : freeAll Cd48.r.r.l.ops = true := (by kernel_rfl)
    have hC : Core B [Ass.box 105 a6 [.slice a3 a2.length a4, .slice (some b0) a0.length a7], Ass.own 3 (Kd.int .i64) a3 a4 a2] [] _ := ⟨_, _, hS.re [2, 2] [] rfl sub_self⟩
    refine ED.quick hN hF hC [0, 1, 2, 4, 8] [4, 31, 33, 37] 9 [(4, .pointer (some ⟨a8, 0, none⟩)), (31, .pointer (some ⟨a6, 1, none⟩)), (33, .int .i32 a9), (37, .int .i32 a9)] #[true, true, true, false, true, false, false, false, true, false, false, false, false, false] (by kernel_rfl) (by kernel_rfl) ?_
    refine ED.Y hN hF hC 3 8 #[true, true, true, true, true, false, false, false, true, false, false, false, false, false] (by kernel_rfl) (by kernel_rfl) rfl (fun _ _ _ hS => YO.loadBox hS 0 rfl 89 1 1 (.slice (some b0) a0.length a7) 32 (by kernel_rfl) (by kernel_rfl) (by kernel_rfl) (by kernel_rfl)) ?_
    refine ED.one 5 7 #[true, true, true, true, true, true, false, false, true, false, false, false, false, false] (by kernel_rfl) (by kernel_rfl) (by kernel_rfl) (EO.callD 69 [.int .i32 a9] _ 34 (by kernel_rfl) (by kernel_rfl) (by kernel_rfl) (confidantref9_Label.calls e1 hS) ?_)
    rintro v w ⟨rfl, hS⟩
    have hC : Core B [Ass.box 105 a6 [.slice a3 a2.length a4, .slice (some b0) a0.length a7], Ass.own 3 (Kd.int .i64) a3 a4 a2] [] _ := ⟨_, _, hS.re [2, 2] [] rfl sub_self⟩
    refine ⟨hC, ?_⟩
    refine ED.Y hN hF hC 6 6 #[true, true, true, true, true, true, true, false, true, false, false, false, false, false] (by kernel_rfl) (by kernel_rfl) rfl (fun _ _ _ hS => YO.idx 89 1 b0 a0.length a7 .i64 a1 35 (by kernel_rfl) (by kernel_rfl) (by kernel_rfl) (by kernel_rfl) c6 c7) ?_
    refine ED.two 7 9 5 (by kernel_rfl) (by kernel_rfl) ?_ ?_
    ·refine EO.openEl hS 3 b0 rfl a1 c6 c7 (fun d4 b6 => Ass.box 96 a8 [.int .i64 0, .int .i64 0, .int .i32 0, .int .i64 0] :: Ass.box 105 a6 [.slice a3 a2.length a4, .slice (some b0) a0.length a7] :: Ass.own 3 (Kd.int .i64) a3 a4 a2 :: Ass.holed 94 96 kS96 (some b0) a7 a0 a1.toNat (d4, (a0.getD a1.toNat []).length, b6) :: os) 94 36 (by kernel_rfl) (by kernel_rfl) (by kernel_rfl) (by kernel_rfl) (fun _ _ => rfl) ?_
     intro d4 b6 hS
     have hC : Core B [Ass.box 105 a6 [.slice a3 a2.length a4, .slice (some b0) a0.length a7], Ass.own 3 (Kd.int .i64) a3 a4 a2] [] _ := ⟨_, _, hS.re [3, 3] [] rfl sub_self⟩
     refine ⟨hC, ?_⟩
     refine ED.at' #[true, true, true, true, true, true, true, true, true, false, false, false, false, false] (by kernel_rfl) ?_
     refine ED.one 9 4 #[true, true, true, true, true, true, true, true, true, true, false, false, false, false] (by kernel_rfl) (by kernel_rfl) (by kernel_rfl) (EO.callD 68 [.int .i32 a9] _ 38 (by kernel_rfl) (by kernel_rfl) (by kernel_rfl) (confidantref9_Number.calls d8 hS) ?_)
     rintro v w ⟨rfl, hS⟩
     have hC : Core B [Ass.box 105 a6 [.slice a3 a2.length a4, .slice (some b0) a0.length a7], Ass.own 3 (Kd.int .i64) a3 a4 a2] [] _ := ⟨_, _, hS.re [3, 3] [] rfl sub_self⟩
     refine ⟨hC, ?_⟩
     obtain ⟨c3, rfl⟩ := St.rd_some hS (Rd.own 0 96 rfl) b8 b9
     refine ED.Y hN hF hC 10 3 #[true, true, true, true, true, true, true, true, true, true, true, false, false, false] (by kernel_rfl) (by kernel_rfl) rfl (fun _ _ _ hS => YO.idx 94 4 c3 (a0.getD a1.toNat []).length b6 .i64 a5 39 (by kernel_rfl) (by kernel_rfl) (by kernel_rfl) (by kernel_rfl) b8 b9) ?_
     refine ED.one 11 2 #[true, true, true, true, true, true, true, true, true, true, true, true, false, false] (by kernel_rfl) (by kernel_rfl) (by kernel_rfl) (EO.Y (YO.loadEl hS kS96 c3 b6 (a0.getD a1.toNat []) (Rd.own 0 96 rfl) zS96 encS96 encS96_of a5 b8 b9 96 4 0 4 rfl (.agg #[.int .i64 (((a0.getD a1.toNat []).getD a5.toNat zS96).f0), .int .i64 (((a0.getD a1.toNat []).getD a5.toNat zS96).f1), .int .i32 (((a0.getD a1.toNat []).getD a5.toNat zS96).f2), .int .i64 (((a0.getD a1.toNat []).getD a5.toNat zS96).f3)]) 40 (by kernel_rfl) (by kernel_rfl) (by kernel_rfl) (by kernel_rfl)) ?_)
     have hC : Core B [Ass.box 105 a6 [.slice a3 a2.length a4, .slice (some b0) a0.length a7], Ass.own 3 (Kd.int .i64) a3 a4 a2] [] _ := ⟨_, _, hS.re [3, 3] [] rfl sub_self⟩
     refine ⟨hC, ?_⟩
     refine ED.one 12 1 #[true, true, true, true, true, true, true, true, true, true, true, true, true, false] (by kernel_rfl) (by kernel_rfl) (by kernel_rfl) (EO.storeBox (os' := Ass.own 96 kS96 (some c3) b6 (a0.getD a1.toNat []) :: Ass.box 96 a8 [.int .i64 (((a0.getD a1.toNat []).getD a5.toNat zS96).f0), .int .i64 (((a0.getD a1.toNat []).getD a5.toNat zS96).f1), .int .i32 (((a0.getD a1.toNat []).getD a5.toNat zS96).f2), .int .i64 (((a0.getD a1.toNat []).getD a5.toNat zS96).f3)] :: Ass.box 105 a6 [.slice a3 a2.length a4, .slice (some b0) a0.length a7] :: Ass.own 3 (Kd.int .i64) a3 a4 a2 :: Ass.holed 94 96 kS96 (some b0) a7 a0 a1.toNat ((some c3), (a0.getD a1.toNat []).length, b6) :: os) hS 1 rfl 96 0 (.agg #[.int .i64 (((a0.getD a1.toNat []).getD a5.toNat zS96).f0), .int .i64 (((a0.getD a1.toNat []).getD a5.toNat zS96).f1), .int .i32 (((a0.getD a1.toNat []).getD a5.toNat zS96).f2), .int .i64 (((a0.getD a1.toNat []).getD a5.toNat zS96).f3)]) [.int .i64 (((a0.getD a1.toNat []).getD a5.toNat zS96).f0), .int .i64 (((a0.getD a1.toNat []).getD a5.toNat zS96).f1), .int .i32 (((a0.getD a1.toNat []).getD a5.toNat zS96).f2), .int .i64 (((a0.getD a1.toNat []).getD a5.toNat zS96).f3)] (by kernel_rfl) (by kernel_rfl) (by kernel_rfl) (by kernel_rfl) (by kernel_rfl) (by kernel_rfl) rfl rfl ?_)
     intro w hS
     have hC : Core B [Ass.box 105 a6 [.slice a3 a2.length a4, .slice (some b0) a0.length a7], Ass.own 3 (Kd.int .i64) a3 a4 a2] [] _ := ⟨_, _, hS.re [3, 3] [] rfl sub_self⟩
     refine ⟨hC, ?_⟩
     refine ED.quick hN hF hC [13] [4, 5] 0 [(4, .pointer (some ⟨a8, 0, none⟩)), (5, .bool (true))] #[true, true, true, true, true, true, true, true, true, true, true, true, true, true] (by kernel_rfl) (by kernel_rfl) ?_
     refine ED.done (by kernel_rfl) ?_
     have hS := St.as (os' := Ass.box 96 a8 [.int .i64 (((a0.getD a1.toNat []).getD a5.toNat zS96).f0), .int .i64 (((a0.getD a1.toNat []).getD a5.toNat zS96).f1), .int .i32 (((a0.getD a1.toNat []).getD a5.toNat zS96).f2), .int .i64 (((a0.getD a1.toNat []).getD a5.toNat zS96).f3)] :: Ass.box 105 a6 [.slice a3 a2.length a4, .slice (some b0) a0.length a7] :: Ass.own 3 (Kd.int .i64) a3 a4 a2 :: Ass.deep 94 96 kS96 (some b0) a7 a0 :: os) (St.close hS 0 3 rfl rfl rfl a0 (set_getD _ _)) rfl
     refine EQ.to ?_
     refine EQ.keep [4, 5] [(4, .pointer (some ⟨a8, 0, none⟩)), (5, .bool (true))] (by kernel_rfl) ?_
     exact fun a ha => ⟨ha, (hS.re [3, 3, 3, 3] [] rfl (sub_self))⟩
    ·refine EO.callD 68 [.int .i32 a9] _ 38 (by kernel_rfl) (by kernel_rfl) (by kernel_rfl) (confidantref9_Number.calls d8 hS) ?_
     rintro v w ⟨rfl, hS⟩
     have hC : Core B [Ass.box 105 a6 [.slice a3 a2.length a4, .slice (some b0) a0.length a7], Ass.own 3 (Kd.int .i64) a3 a4 a2] [] _ := ⟨_, _, hS.re [2, 2] [] rfl sub_self⟩
     refine ⟨hC, ?_⟩
     refine ED.at' #[true, true, true, true, true, true, true, false, true, true, false, false, false, false] (by kernel_rfl) ?_
     refine ED.one 7 4 #[true, true, true, true, true, true, true, true, true, true, false, false, false, false] (by kernel_rfl) (by kernel_rfl) (by kernel_rfl) (EO.openEl hS 3 b0 rfl a1 c6 c7 (fun d5 b7 => Ass.box 96 a8 [.int .i64 0, .int .i64 0, .int .i32 0, .int .i64 0] :: Ass.box 105 a6 [.slice a3 a2.length a4, .slice (some b0) a0.length a7] :: Ass.own 3 (Kd.int .i64) a3 a4 a2 :: Ass.holed 94 96 kS96 (some b0) a7 a0 a1.toNat (d5, (a0.getD a1.toNat []).length, b7) :: os) 94 36 (by kernel_rfl) (by kernel_rfl) (by kernel_rfl) (by kernel_rfl) (fun _ _ => rfl) ?_)
     intro d5 b7 hS
     have hC : Core B [Ass.box 105 a6 [.slice a3 a2.length a4, .slice (some b0) a0.length a7], Ass.own 3 (Kd.int .i64) a3 a4 a2] [] _ := ⟨_, _, hS.re [3, 3] [] rfl sub_self⟩
     refine ⟨hC, ?_⟩
     obtain ⟨c4, rfl⟩ := St.rd_some hS (Rd.own 0 96 rfl) b8 b9
     refine ED.Y hN hF hC 10 3 #[true, true, true, true, true, true, true, true, true, true, true, false, false, false] (by kernel_rfl) (by kernel_rfl) rfl (fun _ _ _ hS => YO.idx 94 4 c4 (a0.getD a1.toNat []).length b7 .i64 a5 39 (by kernel_rfl) (by kernel_rfl) (by kernel_rfl) (by kernel_rfl) b8 b9) ?_
     refine ED.one 11 2 #[true, true, true, true, true, true, true, true, true, true, true, true, false, false] (by kernel_rfl) (by kernel_rfl) (by kernel_rfl) (EO.Y (YO.loadEl hS kS96 c4 b7 (a0.getD a1.toNat []) (Rd.own 0 96 rfl) zS96 encS96 encS96_of a5 b8 b9 96 4 0 4 rfl (.agg #[.int .i64 (((a0.getD a1.toNat []).getD a5.toNat zS96).f0), .int .i64 (((a0.getD a1.toNat []).getD a5.toNat zS96).f1), .int .i32 (((a0.getD a1.toNat []).getD a5.toNat zS96).f2), .int .i64 (((a0.getD a1.toNat []).getD a5.toNat zS96).f3)]) 40 (by kernel_rfl) (by kernel_rfl) (by kernel_rfl) (by kernel_rfl)) ?_)
     have hC : Core B [Ass.box 105 a6 [.slice a3 a2.length a4, .slice (some b0) a0.length a7], Ass.own 3 (Kd.int .i64) a3 a4 a2] [] _ := ⟨_, _, hS.re [3, 3] [] rfl sub_self⟩
     refine ⟨hC, ?_⟩
     refine ED.one 12 1 #[true, true, true, true, true, true, true, true, true, true, true, true, true, false] (by kernel_rfl) (by kernel_rfl) (by kernel_rfl) (EO.storeBox (os' := Ass.own 96 kS96 (some c4) b7 (a0.getD a1.toNat []) :: Ass.box 96 a8 [.int .i64 (((a0.getD a1.toNat []).getD a5.toNat zS96).f0), .int .i64 (((a0.getD a1.toNat []).getD a5.toNat zS96).f1), .int .i32 (((a0.getD a1.toNat []).getD a5.toNat zS96).f2), .int .i64 (((a0.getD a1.toNat []).getD a5.toNat zS96).f3)] :: Ass.box 105 a6 [.slice a3 a2.length a4, .slice (some b0) a0.length a7] :: Ass.own 3 (Kd.int .i64) a3 a4 a2 :: Ass.holed 94 96 kS96 (some b0) a7 a0 a1.toNat ((some c4), (a0.getD a1.toNat []).length, b7) :: os) hS 1 rfl 96 0 (.agg #[.int .i64 (((a0.getD a1.toNat []).getD a5.toNat zS96).f0), .int .i64 (((a0.getD a1.toNat []).getD a5.toNat zS96).f1), .int .i32 (((a0.getD a1.toNat []).getD a5.toNat zS96).f2), .int .i64 (((a0.getD a1.toNat []).getD a5.toNat zS96).f3)]) [.int .i64 (((a0.getD a1.toNat []).getD a5.toNat zS96).f0), .int .i64 (((a0.getD a1.toNat []).getD a5.toNat zS96).f1), .int .i32 (((a0.getD a1.toNat []).getD a5.toNat zS96).f2), .int .i64 (((a0.getD a1.toNat []).getD a5.toNat zS96).f3)] (by kernel_rfl) (by kernel_rfl) (by kernel_rfl) (by kernel_rfl) (by kernel_rfl) (by kernel_rfl) rfl rfl ?_)
     intro w hS
     have hC : Core B [Ass.box 105 a6 [.slice a3 a2.length a4, .slice (some b0) a0.length a7], Ass.own 3 (Kd.int .i64) a3 a4 a2] [] _ := ⟨_, _, hS.re [3, 3] [] rfl sub_self⟩
     refine ⟨hC, ?_⟩
     refine ED.quick hN hF hC [13] [4, 5] 0 [(4, .pointer (some ⟨a8, 0, none⟩)), (5, .bool (true))] #[true, true, true, true, true, true, true, true, true, true, true, true, true, true] (by kernel_rfl) (by kernel_rfl) ?_
     refine ED.done (by kernel_rfl) ?_
     have hS := St.as (os' := Ass.box 96 a8 [.int .i64 (((a0.getD a1.toNat []).getD a5.toNat zS96).f0), .int .i64 (((a0.getD a1.toNat []).getD a5.toNat zS96).f1), .int .i32 (((a0.getD a1.toNat []).getD a5.toNat zS96).f2), .int .i64 (((a0.getD a1.toNat []).getD a5.toNat zS96).f3)] :: Ass.box 105 a6 [.slice a3 a2.length a4, .slice (some b0) a0.length a7] :: Ass.own 3 (Kd.int .i64) a3 a4 a2 :: Ass.deep 94 96 kS96 (some b0) a7 a0 :: os) (St.close hS 0 3 rfl rfl rfl a0 (set_getD _ _)) rfl
     refine EQ.to ?_
     refine EQ.keep [4, 5] [(4, .pointer (some ⟨a8, 0, none⟩)), (5, .bool (true))] (by kernel_rfl) ?_
     exact fun a ha => ⟨ha, (hS.re [3, 3, 3, 3] [] rfl (sub_self))⟩
   ·obtain ⟨ha, hS⟩ := hI
    refine EQ.at ?_ a ha
    clear ha a
    refine EQ.code ?_
    refine EW.ret (by kernel_rfl) ?_
    simp only [Option.some.injEq, Prod.mk.injEq] at H
    obtain ⟨rfl, rfl⟩ := H
    exact EQ.leave2 hS (.cell 4 96) (.tmp 5) (.agg #[.int .i64 (((a0.getD a1.toNat []).getD a5.toNat zS96).f0), .int .i64 (((a0.getD a1.toNat []).getD a5.toNat zS96).f1), .int .i32 (((a0.getD a1.toNat []).getD a5.toNat zS96).f2), .int .i64 (((a0.getD a1.toNat []).getD a5.toNat zS96).f3)]) (.bool (true)) (by kernel_rfl) ⟨0, 96, a8, [.int .i64 (((a0.getD a1.toNat []).getD a5.toNat zS96).f0), .int .i64 (((a0.getD a1.toNat []).getD a5.toNat zS96).f1), .int .i32 (((a0.getD a1.toNat []).getD a5.toNat zS96).f2), .int .i64 (((a0.getD a1.toNat []).getD a5.toNat zS96).f3)], 0, 4, rfl, (by kernel_rfl), (by kernel_rfl)⟩ (oneTmp (by kernel_rfl)) ⟨_, rfl, rfl, (hS.re [3, 3, 3] [3] rfl (sub_self))⟩

/-! ### confidant/confidantref9.SameInts: function 50 -/
def confidantref9_SameInts.l0 (K : Nat) (a0 : List Int) (a1 : List Int) : Nat → Int → Option Bool
 | 0, _ => none
 | n + 1, a2 => if a2 < (a0.length : Int) then (if 0 ≤ a2 then (if a2 < (a1.length : Int) then (if (a0.getD a2.toNat 0) = (a1.getD a2.toNat 0) then (confidantref9_SameInts.l0 K a0 a1 n (IntKind.i64.wrap (a2 + 1))) else (some false)) else none) else none) else (some true)
def confidantref9_SameInts.f (K : Nat) (a0 : List Int) (a1 : List Int) : Option Bool := if (a0.length : Int) = (a1.length : Int) then (confidantref9_SameInts.l0 K a0 a1 K 0) else (some false)
set_option maxRecDepth 100000 in
theorem confidantref9_SameInts.calls {K : Nat} {a0 : List Int} {a1 : List Int} {a5 : Option Addr} {a3 : Nat} {a6 : Option Addr} {a4 : Nat} {b4 : Bool} {B w : World} {os : List Ass} {rs : List Ro} (H : confidantref9_SameInts.f K a0 a1 = some b4) (hS : St B w (os) (Ro.sl (Kd.int .i32) a5 a3 a0 :: Ro.sl (Kd.int .i32) a6 a4 a1 :: rs)) :
  Calls Try.prog 50 [.slice a5 a0.length a3, .slice a6 a1.length a4].toArray w (fun en w' => ∃ v, en = .returned v ∧ v = .bool (b4) ∧ St B w' (os) (Ro.sl (Kd.int .i32) a5 a3 a0 :: Ro.sl (Kd.int .i32) a6 a4 a1 :: rs)) := by
 unfold confidantref9_SameInts.f at H
 refine calls_of_EW (args := [.slice a5 a0.length a3, .slice a6 a1.length a4]) (c := Cd50) 26 Try.func50 (by kernel_rfl) (by kernel_rfl) (by kernel_rfl) ?_
 refine EW.seq (x := Cd50.l) (y := Cd50.r) (by kernel_rfl) ?_
 refine EW.region (id := 0) (ops := Cd50.l.ops) (by kernel_rfl) ?_
 refine EL.quick 1 [0, 1] [(0, .slice a5 a0.length a3), (1, .slice a6 a1.length a4)] (by kernel_rfl) ?_
 refine EL.done (by kernel_rfl) ?_
 refine EQ.code ?_
 refine EW.seq (x := Cd50.r.l) (y := Cd50.r.r) (by kernel_rfl) ?_
 refine EW.seq (x := Cd50.r.l.l) (y := Cd50.r.l.r) (by kernel_rfl) ?_
 refine EW.region (id := 1) (ops := Cd50.r.l.l.ops) (by kernel_rfl) ?_
 refine EL.quick 5 [0, 1, 10] [(0, .slice a5 a0.length a3), (1, .slice a6 a1.length a4), (10, .bool (!(decide ((a0.length : Int) = (a1.length : Int)))))] (by kernel_rfl) ?_
 refine EL.done (by kernel_rfl) ?_
 refine EQ.code ?_
 refine EW.condQ (b := !(decide ((a0.length : Int) = (a1.length : Int)))) (o := (.tmp 10)) (x := Cd50.r.l.r.l) (y := Cd50.r.l.r.r) ((a0.length : Int) = (a1.length : Int)) (false) (by kernel_rfl) (by kernel_rfl) ⟨fun h => (by rw [decide_eq_true h] <;> rfl), fun h => (by rw [decide_eq_false h] <;> rfl)⟩ (fun b1 => ?_) (fun b1 => ?_)
 ·rw [if_pos b1] at H
  refine EW.skip (by kernel_rfl) ?_
  refine EQ.code ?_
  refine EW.seq (x := Cd50.r.r.l) (y := Cd50.r.r.r) (by kernel_rfl) ?_
  refine EW.seq (x := Cd50.r.r.l.l) (y := Cd50.r.r.l.r) (by kernel_rfl) ?_
  refine EW.region (id := 3) (ops := Cd50.r.r.l.l.ops) (by kernel_rfl) ?_
  refine EL.quick 1 [0, 1, 5] [(0, .slice a5 a0.length a3), (1, .slice a6 a1.length a4), (5, .int .i64 0)] (by kernel_rfl) ?_
  refine EL.done (by kernel_rfl) ?_
  refine EQ.code ?_
  refine EW.block (x := Cd50.r.r.l.r.l) (id := 0) (by kernel_rfl) ?_
  refine EW.loop (x := Cd50.r.r.l.r.l.l) (fun n a w => ∃ a2 : Int, Sat 26 [(0, .slice a5 a0.length a3), (1, .slice a6 a1.length a4), (5, .int .i64 a2)] a ∧ St B w (os) (Ro.sl (Kd.int .i32) a5 a3 a0 :: Ro.sl (Kd.int .i32) a6 a4 a1 :: rs) ∧ confidantref9_SameInts.l0 K a0 a1 n a2 = some b4) K (by kernel_rfl) ?_ (fun n a w hI => ?_)
  ·refine EQ.keep [0, 1, 5] [(0, .slice a5 a0.length a3), (1, .slice a6 a1.length a4), (5, .int .i64 0)] (by kernel_rfl) ?_
   exact fun a ha => ⟨0, ha, (hS.re [] [] rfl (sub_cons 0 rfl (sub_cons 1 rfl (sub_tail (sub_tail (sub_self)))))), H⟩
  ·obtain ⟨a2, ha, hS, H⟩ := hI
   obtain _ | n := n
   ·simp [confidantref9_SameInts.l0] at H
   rw [confidantref9_SameInts.l0.eq_2] at H
   refine EW.at ?_ a ha
   clear ha a
   refine EW.seq (x := Cd50.r.r.l.r.l.l.l) (y := Cd50.r.r.l.r.l.l.r) (by kernel_rfl) ?_
   refine EW.seq (x := Cd50.r.r.l.r.l.l.l.l) (y := Cd50.r.r.l.r.l.l.l.r) (by kernel_rfl) ?_
   refine EW.region (id := 4) (ops := Cd50.r.r.l.r.l.l.l.l.ops) (by kernel_rfl) ?_
   refine EL.quick 4 [0, 1, 5, 14] [(0, .slice a5 a0.length a3), (1, .slice a6 a1.length a4), (5, .int .i64 a2), (14, .bool (decide (a2 < (a0.length : Int))))] (by kernel_rfl) ?_
   refine EL.done (by kernel_rfl) ?_
   refine EQ.code ?_
   refine EW.condP (o := (.tmp 14)) (x := Cd50.r.r.l.r.l.l.l.r.l) (y := Cd50.r.r.l.r.l.l.l.r.r) (a2 < (a0.length : Int)) (by kernel_rfl) (by kernel_rfl) (fun a9 => ?_) (fun a9 => ?_)
   ·rw [if_pos a9] at H
    refine EW.skip (by kernel_rfl) ?_
    refine EQ.code ?_
    refine EW.seq (x := Cd50.r.r.l.r.l.l.r.l) (y := Cd50.r.r.l.r.l.l.r.r) (by kernel_rfl) ?_
    refine EW.block (x := Cd50.r.r.l.r.l.l.r.l.l) (id := 1) (by kernel_rfl) ?_
    refine EW.seq (x := Cd50.r.r.l.r.l.l.r.l.l.l) (y := Cd50.r.r.l.r.l.l.r.l.l.r) (by kernel_rfl) ?_
    obtain ⟨b0, H⟩ := ite_in H
    obtain ⟨a7, rfl⟩ := St.rd_some hS (Rd.ro 0 rfl) b0 a9
    obtain ⟨b2, H⟩ := ite_in H
    obtain ⟨a8, rfl⟩ := St.rd_some hS (Rd.ro 1 rfl) b0 b2
    have hS := hS.drew
    refine EW.draw (B := B) (id := 6) (ops := Cd50.r.r.l.r.l.l.r.l.l.l.ops) [] [Ro.sl (Kd.int .i32) (some a7) a3 a0, Ro.sl (Kd.int .i32) (some a8) a4 a1] (by kernel_rfl) (by kernel_rfl) ?_
    have hN : Region.noSelect Cd50.r.r.l.r.l.l.r.l.l.l.ops = true := (by kernel_rfl)
    have hF : freeAll Cd50.r.r.l.r.l.l.r.l.l.l.ops = true := (by kernel_rfl)
    have hC : Core B [] [Ro.sl (Kd.int .i32) (some a7) a3 a0, Ro.sl (Kd.int .i32) (some a8) a4 a1] _ := ⟨_, _, hS⟩
    refine ED.quick hN hF hC [0, 1, 4, 5] [0, 1, 5, 17, 18, 21, 22] 5 [(0, .slice (some a7) a0.length a3), (1, .slice (some a8) a1.length a4), (5, .int .i64 a2), (17, .slice (some a7) a0.length a3), (18, .int .i64 a2), (21, .slice (some a8) a1.length a4), (22, .int .i64 a2)] #[true, true, false, false, true, true, false, false, false] (by kernel_rfl) (by kernel_rfl) ?_
    refine ED.Y hN hF hC 2 4 #[true, true, true, false, true, true, false, false, false] (by kernel_rfl) (by kernel_rfl) rfl (fun _ _ _ hS => YO.idx 32 1 a7 a0.length a3 .i64 a2 19 (by kernel_rfl) (by kernel_rfl) (by kernel_rfl) (by kernel_rfl) b0 a9) ?_
    refine ED.Y hN hF hC 3 3 #[true, true, true, true, true, true, false, false, false] (by kernel_rfl) (by kernel_rfl) rfl (fun _ _ _ hS => YO.loadEl hS (Kd.int .i32) a7 a3 a0 (Rd.ro 0 rfl) 0 (encI .i32) encI_of a2 b0 a9 21 1 0 1 rfl (.int .i32 (a0.getD a2.toNat 0)) 20 (by kernel_rfl) (by kernel_rfl) (by kernel_rfl) (by kernel_rfl)) ?_
    refine ED.Y hN hF hC 6 2 #[true, true, true, true, true, true, true, false, false] (by kernel_rfl) (by kernel_rfl) rfl (fun _ _ _ hS => YO.idx 32 1 a8 a1.length a4 .i64 a2 23 (by kernel_rfl) (by kernel_rfl) (by kernel_rfl) (by kernel_rfl) b0 b2) ?_
    refine ED.Y hN hF hC 7 1 #[true, true, true, true, true, true, true, true, false] (by kernel_rfl) (by kernel_rfl) rfl (fun _ _ _ hS => YO.loadEl hS (Kd.int .i32) a8 a4 a1 (Rd.ro 1 rfl) 0 (encI .i32) encI_of a2 b0 b2 21 1 0 1 rfl (.int .i32 (a1.getD a2.toNat 0)) 24 (by kernel_rfl) (by kernel_rfl) (by kernel_rfl) (by kernel_rfl)) ?_
    refine ED.quick hN hF hC [8] [0, 1, 5, 25] 0 [(0, .slice (some a7) a0.length a3), (1, .slice (some a8) a1.length a4), (5, .int .i64 a2), (25, .bool (!(decide ((a0.getD a2.toNat 0) = (a1.getD a2.toNat 0)))))] #[true, true, true, true, true, true, true, true, true] (by kernel_rfl) (by kernel_rfl) ?_
    refine ED.done (by kernel_rfl) ?_
    refine EQ.code ?_
    refine EW.condQ (b := !(decide ((a0.getD a2.toNat 0) = (a1.getD a2.toNat 0)))) (o := (.tmp 25)) (x := Cd50.r.r.l.r.l.l.r.l.l.r.l) (y := Cd50.r.r.l.r.l.l.r.l.l.r.r) ((a0.getD a2.toNat 0) = (a1.getD a2.toNat 0)) (false) (by kernel_rfl) (by kernel_rfl) ⟨fun h => (by rw [decide_eq_true h] <;> rfl), fun h => (by rw [decide_eq_false h] <;> rfl)⟩ (fun b3 => ?_) (fun b3 => ?_)
    ·rw [if_pos b3] at H
     refine EW.skip (by kernel_rfl) ?_
     refine EQ.pop ?_
     refine EQ.code ?_
     refine EW.region (id := 5) (ops := Cd50.r.r.l.r.l.l.r.r.ops) (by kernel_rfl) ?_
     refine EL.quick 3 [0, 1, 5] [(0, .slice (some a7) a0.length a3), (1, .slice (some a8) a1.length a4), (5, .int .i64 (IntKind.i64.wrap (a2 + 1)))] (by kernel_rfl) ?_
     refine EL.done (by kernel_rfl) ?_
     refine EQ.to ?_
     refine EQ.keep [0, 1, 5] [(0, .slice (some a7) a0.length a3), (1, .slice (some a8) a1.length a4), (5, .int .i64 (IntKind.i64.wrap (a2 + 1)))] (by kernel_rfl) ?_
     exact fun a ha => ⟨n, Nat.lt_succ_self n, IntKind.i64.wrap (a2 + 1), ha, (hS.re [] [] rfl (sub_cons 0 rfl (sub_cons 1 rfl (sub_tail (sub_tail (sub_self)))))), H⟩
    ·rw [if_neg b3] at H
     refine EW.seq (x := Cd50.r.r.l.r.l.l.r.l.l.r.l.l) (y := Cd50.r.r.l.r.l.l.r.l.l.r.l.r) (by kernel_rfl) ?_
     refine EW.region (id := 7) (ops := Cd50.r.r.l.r.l.l.r.l.l.r.l.l.ops) (by kernel_rfl) ?_
     refine EL.quick 1 [4] [(4, .bool (false))] (by kernel_rfl) ?_
     refine EL.done (by kernel_rfl) ?_
     refine EQ.code ?_
     refine EW.ret (by kernel_rfl) ?_
     refine EQ.ret ?_
     refine EQ.ret ?_
     refine EQ.ret ?_
     refine EQ.ret ?_
     refine EQ.ret ?_
     obtain rfl := Option.some.inj H
     exact EQ.leave (.bool (false)) (by kernel_rfl) ⟨_, rfl, rfl, (hS.re [] [] rfl (sub_self))⟩
   ·rw [if_neg a9] at H
    refine EW.exit (id := 0) (by kernel_rfl) ?_
    refine EQ.exitCode ?_
    refine EQ.exitTo ?_
    refine EQ.exitHere ?_
    refine EQ.code ?_
    refine EW.seq (x := Cd50.r.r.r.l) (y := Cd50.r.r.r.r) (by kernel_rfl) ?_
    refine EW.region (id := 8) (ops := Cd50.r.r.r.l.ops) (by kernel_rfl) ?_
    refine EL.quick 1 [4] [(4, .bool (true))] (by kernel_rfl) ?_
    refine EL.done (by kernel_rfl) ?_
    refine EQ.code ?_
    refine EW.ret (by kernel_rfl) ?_
    obtain rfl := Option.some.inj H
    exact EQ.leave (.bool (true)) (by kernel_rfl) ⟨_, rfl, rfl, (hS.re [] [] rfl (sub_self))⟩
 ·rw [if_neg b1] at H
  refine EW.seq (x := Cd50.r.l.r.l.l) (y := Cd50.r.l.r.l.r) (by kernel_rfl) ?_
  refine EW.region (id := 2) (ops := Cd50.r.l.r.l.l.ops) (by kernel_rfl) ?_
  refine EL.quick 1 [4] [(4, .bool (false))] (by kernel_rfl) ?_
  refine EL.done (by kernel_rfl) ?_
  refine EQ.code ?_
  refine EW.ret (by kernel_rfl) ?_
  refine EQ.ret ?_
  obtain rfl := Option.some.inj H
  exact EQ.leave (.bool (false)) (by kernel_rfl) ⟨_, rfl, rfl, (hS.re [] [] rfl (sub_self))⟩

/-! ### confidant/confidantref9.Same: function 26 -/
def confidantref9_Same.f (K : Nat) (b2 : Int) (b3 : Int) (b4 : Int) (b0 : List Int) (a2 : Int) (a3 : Int) (a4 : Int) (a5 : Int) (b5 : Int) (b6 : Int) (b7 : Int) (c7 : Int) (b9 : Int) (c0 : Int) (c1 : Int) (b8 : List Int) (a6 : Int) (a7 : Int) (a8 : Int) (a9 : Int) (c2 : Int) (c3 : Int) (c4 : Int) (d0 : Int) : Option Bool := if b2 = b9 then (if b3 = c0 then (if b4 = c1 then (b1 (confidantref9_SameInts.f K b0 b8) fun (d1 : Bool) => (if d1 = true then (if ((a2 == a6) && ((a3 == a7) && ((a4 == a8) && ((a5 == a9) && true)))) = true then (if b5 = c2 then (if b6 = c3 then (if b7 = c4 then (some (decide (c7 = d0))) else (some false)) else (some false)) else (some false)) else (some false)) else (some false))) else (some false)) else (some false)) else (some false)
set_option maxRecDepth 100000 in
theorem confidantref9_Same.calls {K : Nat} {b2 : Int} {b3 : Int} {b4 : Int} {b0 : List Int} {a2 : Int} {a3 : Int} {a4 : Int} {a5 : Int} {b5 : Int} {b6 : Int} {b7 : Int} {c7 : Int} {b9 : Int} {c0 : Int} {c1 : Int} {b8 : List Int} {a6 : Int} {a7 : Int} {a8 : Int} {a9 : Int} {c2 : Int} {c3 : Int} {c4 : Int} {d0 : Int} {c5 : Option Addr} {c6 : Nat} {c8 : Option Addr} {c9 : Nat} {e0 : Bool} {B w : World} {os : List Ass} {rs : List Ro} (H : confidantref9_Same.f K b2 b3 b4 b0 a2 a3 a4 a5 b5 b6 b7 c7 b9 c0 c1 b8 a6 a7 a8 a9 c2 c3 c4 d0 = some e0) (hS : St B w (os) (Ro.sl (Kd.int .i32) c5 c6 b0 :: Ro.sl (Kd.int .i32) c8 c9 b8 :: rs)) :
  Calls Try.prog 26 [.agg #[.int .i32 b2, .int .i64 b3, .int .i64 b4, .slice c5 b0.length c6, .int .i32 a2, .int .i32 a3, .int .i32 a4, .int .i32 a5, .int .i64 b5, .int .i64 b6, .int .u32 b7, .int .i64 c7], .agg #[.int .i32 b9, .int .i64 c0, .int .i64 c1, .slice c8 b8.length c9, .int .i32 a6, .int .i32 a7, .int .i32 a8, .int .i32 a9, .int .i64 c2, .int .i64 c3, .int .u32 c4, .int .i64 d0]].toArray w (fun en w' => ∃ v, en = .returned v ∧ v = .bool (e0) ∧ St B w' (os) (Ro.sl (Kd.int .i32) c5 c6 b0 :: Ro.sl (Kd.int .i32) c8 c9 b8 :: rs)) := by
 unfold confidantref9_Same.f at H
 refine calls_of_EW (args := [.agg #[.int .i32 b2, .int .i64 b3, .int .i64 b4, .slice c5 b0.length c6, .int .i32 a2, .int .i32 a3, .int .i32 a4, .int .i32 a5, .int .i64 b5, .int .i64 b6, .int .u32 b7, .int .i64 c7], .agg #[.int .i32 b9, .int .i64 c0, .int .i64 c1, .slice c8 b8.length c9, .int .i32 a6, .int .i32 a7, .int .i32 a8, .int .i32 a9, .int .i64 c2, .int .i64 c3, .int .u32 c4, .int .i64 d0]]) (c := Cd26) 66 Try.func26 (by kernel_rfl) (by kernel_rfl) (by kernel_rfl) ?_
 refine EW.seq (x := Cd26.l) (y := Cd26.r) (by kernel_rfl) ?_
 refine EW.region (id := 0) (ops := Cd26.l.ops) (by kernel_rfl) ?_
 refine EL.of (EO.box hS 36 (.agg #[.int .i32 b2, .int .i64 b3, .int .i64 b4, .slice c5 b0.length c6, .int .i32 a2, .int .i32 a3, .int .i32 a4, .int .i32 a5, .int .i64 b5, .int .i64 b6, .int .u32 b7, .int .i64 c7]) [.int .i32 b2, .int .i64 b3, .int .i64 b4, .slice c5 b0.length c6, .int .i32 a2, .int .i32 a3, .int .i32 a4, .int .i32 a5, .int .i64 b5, .int .i64 b6, .int .u32 b7, .int .i64 c7] 2 (by kernel_rfl) (by kernel_rfl) (by kernel_rfl) (by first | rfl | kernel_rfl) ?_)
 intro a1 w hS
 refine EL.of (EO.box hS 36 (.agg #[.int .i32 b9, .int .i64 c0, .int .i64 c1, .slice c8 b8.length c9, .int .i32 a6, .int .i32 a7, .int .i32 a8, .int .i32 a9, .int .i64 c2, .int .i64 c3, .int .u32 c4, .int .i64 d0]) [.int .i32 b9, .int .i64 c0, .int .i64 c1, .slice c8 b8.length c9, .int .i32 a6, .int .i32 a7, .int .i32 a8, .int .i32 a9, .int .i64 c2, .int .i64 c3, .int .u32 c4, .int .i64 d0] 3 (by kernel_rfl) (by kernel_rfl) (by kernel_rfl) (by first | rfl | kernel_rfl) ?_)
 intro a0 w hS
 refine EL.quick 1 [2, 3] [(2, .pointer (some ⟨a1, 0, none⟩)), (3, .pointer (some ⟨a0, 0, none⟩))] (by kernel_rfl) ?_
 refine EL.done (by kernel_rfl) ?_
 refine EQ.code ?_
 refine EW.seq (x := Cd26.r.l) (y := Cd26.r.r) (by kernel_rfl) ?_
 refine EW.region (id := 1) (ops := Cd26.r.l.ops) (by kernel_rfl) ?_
 refine EL.quick 1 [2, 3, 5] [(2, .pointer (some ⟨a1, 0, none⟩)), (3, .pointer (some ⟨a0, 0, none⟩)), (5, .pointer (some ⟨a1, 0, none⟩))] (by kernel_rfl) ?_
 refine EL.of (EO.Y (YO.loadBox hS 1 rfl 21 0 1 (.int .i32 b2) 6 (by kernel_rfl) (by kernel_rfl) (by kernel_rfl) (by kernel_rfl)) ?_)
 refine EL.quick 1 [2, 3, 6, 7] [(2, .pointer (some ⟨a1, 0, none⟩)), (3, .pointer (some ⟨a0, 0, none⟩)), (6, .int .i32 b2), (7, .pointer (some ⟨a0, 0, none⟩))] (by kernel_rfl) ?_
 refine EL.of (EO.Y (YO.loadBox hS 0 rfl 21 0 1 (.int .i32 b9) 8 (by kernel_rfl) (by kernel_rfl) (by kernel_rfl) (by kernel_rfl)) ?_)
 refine EL.quick 2 [2, 3, 10] [(2, .pointer (some ⟨a1, 0, none⟩)), (3, .pointer (some ⟨a0, 0, none⟩)), (10, .bool (decide (b2 = b9)))] (by kernel_rfl) ?_
 by_cases d2 : b2 = b9
 ·rw [if_pos d2] at H
  refine EL.keep [2, 3, 10] [(2, .pointer (some ⟨a1, 0, none⟩)), (3, .pointer (some ⟨a0, 0, none⟩)), (10, .bool (decide (b2 = b9)))] (by kernel_rfl) ?_
  refine EL.as' [(2, .pointer (some ⟨a1, 0, none⟩)), (3, .pointer (some ⟨a0, 0, none⟩)), (10, .bool (true))] (by simp only [dec_t d2, Bool.not_true, Bool.not_false]) ?_
  refine EL.quick 1 [2, 3, 10, 11] [(2, .pointer (some ⟨a1, 0, none⟩)), (3, .pointer (some ⟨a0, 0, none⟩)), (10, .bool (true)), (11, .pointer (some ⟨a1, 1, none⟩))] (by kernel_rfl) ?_
  refine EL.of (EO.Y (YO.loadBox hS 1 rfl 3 1 1 (.int .i64 b3) 12 (by kernel_rfl) (by kernel_rfl) (by kernel_rfl) (by kernel_rfl)) ?_)
  refine EL.quick 1 [2, 3, 10, 12, 13] [(2, .pointer (some ⟨a1, 0, none⟩)), (3, .pointer (some ⟨a0, 0, none⟩)), (10, .bool (true)), (12, .int .i64 b3), (13, .pointer (some ⟨a0, 1, none⟩))] (by kernel_rfl) ?_
  refine EL.of (EO.Y (YO.loadBox hS 0 rfl 3 1 1 (.int .i64 c0) 14 (by kernel_rfl) (by kernel_rfl) (by kernel_rfl) (by kernel_rfl)) ?_)
  refine EL.quick 3 [2, 3, 17] [(2, .pointer (some ⟨a1, 0, none⟩)), (3, .pointer (some ⟨a0, 0, none⟩)), (17, .bool (decide (b3 = c0)))] (by kernel_rfl) ?_
  by_cases d3 : b3 = c0
  ·rw [if_pos d3] at H
   refine EL.keep [2, 3, 17] [(2, .pointer (some ⟨a1, 0, none⟩)), (3, .pointer (some ⟨a0, 0, none⟩)), (17, .bool (decide (b3 = c0)))] (by kernel_rfl) ?_
   refine EL.as' [(2, .pointer (some ⟨a1, 0, none⟩)), (3, .pointer (some ⟨a0, 0, none⟩)), (17, .bool (true))] (by simp only [dec_t d3, Bool.not_true, Bool.not_false]) ?_
   refine EL.quick 1 [2, 3, 17, 18] [(2, .pointer (some ⟨a1, 0, none⟩)), (3, .pointer (some ⟨a0, 0, none⟩)), (17, .bool (true)), (18, .pointer (some ⟨a1, 2, none⟩))] (by kernel_rfl) ?_
   refine EL.of (EO.Y (YO.loadBox hS 1 rfl 3 2 1 (.int .i64 b4) 19 (by kernel_rfl) (by kernel_rfl) (by kernel_rfl) (by kernel_rfl)) ?_)
   refine EL.quick 1 [2, 3, 17, 19, 20] [(2, .pointer (some ⟨a1, 0, none⟩)), (3, .pointer (some ⟨a0, 0, none⟩)), (17, .bool (true)), (19, .int .i64 b4), (20, .pointer (some ⟨a0, 2, none⟩))] (by kernel_rfl) ?_
   refine EL.of (EO.Y (YO.loadBox hS 0 rfl 3 2 1 (.int .i64 c1) 21 (by kernel_rfl) (by kernel_rfl) (by kernel_rfl) (by kernel_rfl)) ?_)
   refine EL.quick 3 [2, 3, 24] [(2, .pointer (some ⟨a1, 0, none⟩)), (3, .pointer (some ⟨a0, 0, none⟩)), (24, .bool (decide (b4 = c1)))] (by kernel_rfl) ?_
   by_cases d4 : b4 = c1
   ·rw [if_pos d4] at H
    refine EL.keep [2, 3, 24] [(2, .pointer (some ⟨a1, 0, none⟩)), (3, .pointer (some ⟨a0, 0, none⟩)), (24, .bool (decide (b4 = c1)))] (by kernel_rfl) ?_
    refine EL.as' [(2, .pointer (some ⟨a1, 0, none⟩)), (3, .pointer (some ⟨a0, 0, none⟩)), (24, .bool (true))] (by simp only [dec_t d4, Bool.not_true, Bool.not_false]) ?_
    refine EL.quick 1 [2, 3, 24, 25] [(2, .pointer (some ⟨a1, 0, none⟩)), (3, .pointer (some ⟨a0, 0, none⟩)), (24, .bool (true)), (25, .pointer (some ⟨a1, 3, none⟩))] (by kernel_rfl) ?_
    refine EL.of (EO.Y (YO.loadBox hS 1 rfl 32 3 1 (.slice c5 b0.length c6) 26 (by kernel_rfl) (by kernel_rfl) (by kernel_rfl) (by kernel_rfl)) ?_)
    refine EL.quick 1 [2, 3, 24, 26, 27] [(2, .pointer (some ⟨a1, 0, none⟩)), (3, .pointer (some ⟨a0, 0, none⟩)), (24, .bool (true)), (26, .slice c5 b0.length c6), (27, .pointer (some ⟨a0, 3, none⟩))] (by kernel_rfl) ?_
    refine EL.of (EO.Y (YO.loadBox hS 0 rfl 32 3 1 (.slice c8 b8.length c9) 28 (by kernel_rfl) (by kernel_rfl) (by kernel_rfl) (by kernel_rfl)) ?_)
    have hS : St B _ (Ass.box 36 a0 [.int .i32 b9, .int .i64 c0, .int .i64 c1, .slice c8 b8.length c9, .int .i32 a6, .int .i32 a7, .int .i32 a8, .int .i32 a9, .int .i64 c2, .int .i64 c3, .int .u32 c4, .int .i64 d0] :: Ass.box 36 a1 [.int .i32 b2, .int .i64 b3, .int .i64 b4, .slice c5 b0.length c6, .int .i32 a2, .int .i32 a3, .int .i32 a4, .int .i32 a5, .int .i64 b5, .int .i64 b6, .int .u32 b7, .int .i64 c7] :: os) (Ro.sl (Kd.int .i32) c5 c6 b0 :: Ro.sl (Kd.int .i32) c8 c9 b8 :: Ro.sl (Kd.int .i32) c5 c6 b0 :: Ro.sl (Kd.int .i32) c8 c9 b8 :: rs) := hS.re [] [] rfl (sub_cons 0 rfl (sub_cons 1 rfl sub_self))
    obtain ⟨d1, e1, H⟩ := b1_out H
    refine EL.of (EO.callD 50 [.slice c5 b0.length c6, .slice c8 b8.length c9] _ 29 (by kernel_rfl) (by kernel_rfl) (by kernel_rfl) (confidantref9_SameInts.calls e1 hS) ?_)
    rintro v w ⟨rfl, hS⟩
    refine EL.quick 2 [2, 3, 31] [(2, .pointer (some ⟨a1, 0, none⟩)), (3, .pointer (some ⟨a0, 0, none⟩)), (31, .bool (d1))] (by kernel_rfl) ?_
    by_cases d5 : d1 = true
    ·rw [if_pos d5] at H
     refine EL.keep [2, 3, 31] [(2, .pointer (some ⟨a1, 0, none⟩)), (3, .pointer (some ⟨a0, 0, none⟩)), (31, .bool (d1))] (by kernel_rfl) ?_
     refine EL.as' [(2, .pointer (some ⟨a1, 0, none⟩)), (3, .pointer (some ⟨a0, 0, none⟩)), (31, .bool (true))] (by simp only [d5, Bool.not_true, Bool.not_false]) ?_
     refine EL.quick 1 [2, 3, 31, 32] [(2, .pointer (some ⟨a1, 0, none⟩)), (3, .pointer (some ⟨a0, 0, none⟩)), (31, .bool (true)), (32, .pointer (some ⟨a1, 4, none⟩))] (by kernel_rfl) ?_
     refine EL.of (EO.Y (YO.loadBox hS 1 rfl 33 4 4 (.agg #[.int .i32 a2, .int .i32 a3, .int .i32 a4, .int .i32 a5]) 33 (by kernel_rfl) (by kernel_rfl) (by kernel_rfl) (by kernel_rfl)) ?_)
     refine EL.quick 1 [2, 3, 31, 33, 34] [(2, .pointer (some ⟨a1, 0, none⟩)), (3, .pointer (some ⟨a0, 0, none⟩)), (31, .bool (true)), (33, .agg #[.int .i32 a2, .int .i32 a3, .int .i32 a4, .int .i32 a5]), (34, .pointer (some ⟨a0, 4, none⟩))] (by kernel_rfl) ?_
     refine EL.of (EO.Y (YO.loadBox hS 0 rfl 33 4 4 (.agg #[.int .i32 a6, .int .i32 a7, .int .i32 a8, .int .i32 a9]) 35 (by kernel_rfl) (by kernel_rfl) (by kernel_rfl) (by kernel_rfl)) ?_)
     refine EL.of (EO.Y (YO.eqAg .eql 33 (.tmp 33) (.tmp 35) #[.int .i32 a2, .int .i32 a3, .int .i32 a4, .int .i32 a5] #[.int .i32 a6, .int .i32 a7, .int .i32 a8, .int .i32 a9] ((a2 == a6) && ((a3 == a7) && ((a4 == a8) && ((a5 == a9) && true)))) (((a2 == a6) && ((a3 == a7) && ((a4 == a8) && ((a5 == a9) && true))))) 36 (by kernel_rfl) (by kernel_rfl) (by kernel_rfl) (by kernel_rfl) (by kernel_rfl) (.inl ⟨rfl, rfl⟩)) ?_)
     refine EL.quick 2 [2, 3, 38] [(2, .pointer (some ⟨a1, 0, none⟩)), (3, .pointer (some ⟨a0, 0, none⟩)), (38, .bool (((a2 == a6) && ((a3 == a7) && ((a4 == a8) && ((a5 == a9) && true))))))] (by kernel_rfl) ?_
     by_cases d6 : ((a2 == a6) && ((a3 == a7) && ((a4 == a8) && ((a5 == a9) && true)))) = true
     ·rw [if_pos d6] at H
      refine EL.keep [2, 3, 38] [(2, .pointer (some ⟨a1, 0, none⟩)), (3, .pointer (some ⟨a0, 0, none⟩)), (38, .bool (((a2 == a6) && ((a3 == a7) && ((a4 == a8) && ((a5 == a9) && true))))))] (by kernel_rfl) ?_
      refine EL.as' [(2, .pointer (some ⟨a1, 0, none⟩)), (3, .pointer (some ⟨a0, 0, none⟩)), (38, .bool (true))] (by simp only [d6, Bool.not_true, Bool.not_false]) ?_
      refine EL.quick 1 [2, 3, 38, 39] [(2, .pointer (some ⟨a1, 0, none⟩)), (3, .pointer (some ⟨a0, 0, none⟩)), (38, .bool (true)), (39, .pointer (some ⟨a1, 8, none⟩))] (by kernel_rfl) ?_
      refine EL.of (EO.Y (YO.loadBox hS 1 rfl 3 8 1 (.int .i64 b5) 40 (by kernel_rfl) (by kernel_rfl) (by kernel_rfl) (by kernel_rfl)) ?_)
      refine EL.quick 1 [2, 3, 38, 40, 41] [(2, .pointer (some ⟨a1, 0, none⟩)), (3, .pointer (some ⟨a0, 0, none⟩)), (38, .bool (true)), (40, .int .i64 b5), (41, .pointer (some ⟨a0, 8, none⟩))] (by kernel_rfl) ?_
      refine EL.of (EO.Y (YO.loadBox hS 0 rfl 3 8 1 (.int .i64 c2) 42 (by kernel_rfl) (by kernel_rfl) (by kernel_rfl) (by kernel_rfl)) ?_)
      refine EL.quick 3 [2, 3, 45] [(2, .pointer (some ⟨a1, 0, none⟩)), (3, .pointer (some ⟨a0, 0, none⟩)), (45, .bool (decide (b5 = c2)))] (by kernel_rfl) ?_
      by_cases d7 : b5 = c2
      ·rw [if_pos d7] at H
       refine EL.keep [2, 3, 45] [(2, .pointer (some ⟨a1, 0, none⟩)), (3, .pointer (some ⟨a0, 0, none⟩)), (45, .bool (decide (b5 = c2)))] (by kernel_rfl) ?_
       refine EL.as' [(2, .pointer (some ⟨a1, 0, none⟩)), (3, .pointer (some ⟨a0, 0, none⟩)), (45, .bool (true))] (by simp only [dec_t d7, Bool.not_true, Bool.not_false]) ?_
       refine EL.quick 1 [2, 3, 45, 46] [(2, .pointer (some ⟨a1, 0, none⟩)), (3, .pointer (some ⟨a0, 0, none⟩)), (45, .bool (true)), (46, .pointer (some ⟨a1, 9, none⟩))] (by kernel_rfl) ?_
       refine EL.of (EO.Y (YO.loadBox hS 1 rfl 3 9 1 (.int .i64 b6) 47 (by kernel_rfl) (by kernel_rfl) (by kernel_rfl) (by kernel_rfl)) ?_)
       refine EL.quick 1 [2, 3, 45, 47, 48] [(2, .pointer (some ⟨a1, 0, none⟩)), (3, .pointer (some ⟨a0, 0, none⟩)), (45, .bool (true)), (47, .int .i64 b6), (48, .pointer (some ⟨a0, 9, none⟩))] (by kernel_rfl) ?_
       refine EL.of (EO.Y (YO.loadBox hS 0 rfl 3 9 1 (.int .i64 c3) 49 (by kernel_rfl) (by kernel_rfl) (by kernel_rfl) (by kernel_rfl)) ?_)
       refine EL.quick 3 [2, 3, 52] [(2, .pointer (some ⟨a1, 0, none⟩)), (3, .pointer (some ⟨a0, 0, none⟩)), (52, .bool (decide (b6 = c3)))] (by kernel_rfl) ?_
       by_cases d8 : b6 = c3
       ·rw [if_pos d8] at H
        refine EL.keep [2, 3, 52] [(2, .pointer (some ⟨a1, 0, none⟩)), (3, .pointer (some ⟨a0, 0, none⟩)), (52, .bool (decide (b6 = c3)))] (by kernel_rfl) ?_
        refine EL.as' [(2, .pointer (some ⟨a1, 0, none⟩)), (3, .pointer (some ⟨a0, 0, none⟩)), (52, .bool (true))] (by simp only [dec_t d8, Bool.not_true, Bool.not_false]) ?_
        refine EL.quick 1 [2, 3, 52, 53] [(2, .pointer (some ⟨a1, 0, none⟩)), (3, .pointer (some ⟨a0, 0, none⟩)), (52, .bool (true)), (53, .pointer (some ⟨a1, 10, none⟩))] (by kernel_rfl) ?_
        refine EL.of (EO.Y (YO.loadBox hS 1 rfl 34 10 1 (.int .u32 b7) 54 (by kernel_rfl) (by kernel_rfl) (by kernel_rfl) (by kernel_rfl)) ?_)
        refine EL.quick 1 [2, 3, 52, 54, 55] [(2, .pointer (some ⟨a1, 0, none⟩)), (3, .pointer (some ⟨a0, 0, none⟩)), (52, .bool (true)), (54, .int .u32 b7), (55, .pointer (some ⟨a0, 10, none⟩))] (by kernel_rfl) ?_
        refine EL.of (EO.Y (YO.loadBox hS 0 rfl 34 10 1 (.int .u32 c4) 56 (by kernel_rfl) (by kernel_rfl) (by kernel_rfl) (by kernel_rfl)) ?_)
        refine EL.quick 3 [2, 3, 59] [(2, .pointer (some ⟨a1, 0, none⟩)), (3, .pointer (some ⟨a0, 0, none⟩)), (59, .bool (decide (b7 = c4)))] (by kernel_rfl) ?_
        by_cases d9 : b7 = c4
        ·rw [if_pos d9] at H
         refine EL.keep [2, 3, 59] [(2, .pointer (some ⟨a1, 0, none⟩)), (3, .pointer (some ⟨a0, 0, none⟩)), (59, .bool (decide (b7 = c4)))] (by kernel_rfl) ?_
         refine EL.as' [(2, .pointer (some ⟨a1, 0, none⟩)), (3, .pointer (some ⟨a0, 0, none⟩)), (59, .bool (true))] (by simp only [dec_t d9, Bool.not_true, Bool.not_false]) ?_
         refine EL.quick 1 [3, 59, 60] [(3, .pointer (some ⟨a0, 0, none⟩)), (59, .bool (true)), (60, .pointer (some ⟨a1, 11, none⟩))] (by kernel_rfl) ?_
         refine EL.of (EO.Y (YO.loadBox hS 1 rfl 3 11 1 (.int .i64 c7) 61 (by kernel_rfl) (by kernel_rfl) (by kernel_rfl) (by kernel_rfl)) ?_)
         refine EL.quick 1 [59, 61, 62] [(59, .bool (true)), (61, .int .i64 c7), (62, .pointer (some ⟨a0, 11, none⟩))] (by kernel_rfl) ?_
         refine EL.of (EO.Y (YO.loadBox hS 0 rfl 3 11 1 (.int .i64 d0) 63 (by kernel_rfl) (by kernel_rfl) (by kernel_rfl) (by kernel_rfl)) ?_)
         refine EL.quick 3 [4] [(4, .bool (decide (c7 = d0)))] (by kernel_rfl) ?_
         refine EL.done (by kernel_rfl) ?_
         refine EQ.code ?_
         refine EW.ret (by kernel_rfl) ?_
         obtain rfl := Option.some.inj H
         exact EQ.leave (.bool (decide (c7 = d0))) (by kernel_rfl) ⟨_, rfl, rfl, (hS.re [] [0, 0] rfl (sub_tail (sub_tail (sub_self))))⟩
        ·rw [if_neg d9] at H
         refine EL.keep [2, 3, 59] [(2, .pointer (some ⟨a1, 0, none⟩)), (3, .pointer (some ⟨a0, 0, none⟩)), (59, .bool (decide (b7 = c4)))] (by kernel_rfl) ?_
         refine EL.as' [(2, .pointer (some ⟨a1, 0, none⟩)), (3, .pointer (some ⟨a0, 0, none⟩)), (59, .bool (false))] (by simp only [dec_f d9, Bool.not_true, Bool.not_false]) ?_
         refine EL.quick 7 [4] [(4, .bool (false))] (by kernel_rfl) ?_
         refine EL.done (by kernel_rfl) ?_
         refine EQ.code ?_
         refine EW.ret (by kernel_rfl) ?_
         obtain rfl := Option.some.inj H
         exact EQ.leave (.bool (false)) (by kernel_rfl) ⟨_, rfl, rfl, (hS.re [] [0, 0] rfl (sub_tail (sub_tail (sub_self))))⟩
       ·rw [if_neg d8] at H
        refine EL.keep [2, 3, 52] [(2, .pointer (some ⟨a1, 0, none⟩)), (3, .pointer (some ⟨a0, 0, none⟩)), (52, .bool (decide (b6 = c3)))] (by kernel_rfl) ?_
        refine EL.as' [(2, .pointer (some ⟨a1, 0, none⟩)), (3, .pointer (some ⟨a0, 0, none⟩)), (52, .bool (false))] (by simp only [dec_f d8, Bool.not_true, Bool.not_false]) ?_
        refine EL.quick 14 [4] [(4, .bool (false))] (by kernel_rfl) ?_
        refine EL.done (by kernel_rfl) ?_
        refine EQ.code ?_
        refine EW.ret (by kernel_rfl) ?_
        obtain rfl := Option.some.inj H
        exact EQ.leave (.bool (false)) (by kernel_rfl) ⟨_, rfl, rfl, (hS.re [] [0, 0] rfl (sub_tail (sub_tail (sub_self))))⟩
      ·rw [if_neg d7] at H
       refine EL.keep [2, 3, 45] [(2, .pointer (some ⟨a1, 0, none⟩)), (3, .pointer (some ⟨a0, 0, none⟩)), (45, .bool (decide (b5 = c2)))] (by kernel_rfl) ?_
       refine EL.as' [(2, .pointer (some ⟨a1, 0, none⟩)), (3, .pointer (some ⟨a0, 0, none⟩)), (45, .bool (false))] (by simp only [dec_f d7, Bool.not_true, Bool.not_false]) ?_
       refine EL.quick 21 [4] [(4, .bool (false))] (by kernel_rfl) ?_
       refine EL.done (by kernel_rfl) ?_
       refine EQ.code ?_
       refine EW.ret (by kernel_rfl) ?_
       obtain rfl := Option.some.inj H
       exact EQ.leave (.bool (false)) (by kernel_rfl) ⟨_, rfl, rfl, (hS.re [] [0, 0] rfl (sub_tail (sub_tail (sub_self))))⟩
     ·rw [if_neg d6] at H
      refine EL.keep [2, 3, 38] [(2, .pointer (some ⟨a1, 0, none⟩)), (3, .pointer (some ⟨a0, 0, none⟩)), (38, .bool (((a2 == a6) && ((a3 == a7) && ((a4 == a8) && ((a5 == a9) && true))))))] (by kernel_rfl) ?_
      refine EL.as' [(2, .pointer (some ⟨a1, 0, none⟩)), (3, .pointer (some ⟨a0, 0, none⟩)), (38, .bool (false))] (by simp only [(Bool.eq_false_iff.2 d6), Bool.not_true, Bool.not_false]) ?_
      refine EL.quick 28 [4] [(4, .bool (false))] (by kernel_rfl) ?_
      refine EL.done (by kernel_rfl) ?_
      refine EQ.code ?_
      refine EW.ret (by kernel_rfl) ?_
      obtain rfl := Option.some.inj H
      exact EQ.leave (.bool (false)) (by kernel_rfl) ⟨_, rfl, rfl, (hS.re [] [0, 0] rfl (sub_tail (sub_tail (sub_self))))⟩
    ·rw [if_neg d5] at H
     refine EL.keep [2, 3, 31] [(2, .pointer (some ⟨a1, 0, none⟩)), (3, .pointer (some ⟨a0, 0, none⟩)), (31, .bool (d1))] (by kernel_rfl) ?_
     refine EL.as' [(2, .pointer (some ⟨a1, 0, none⟩)), (3, .pointer (some ⟨a0, 0, none⟩)), (31, .bool (false))] (by simp only [(Bool.eq_false_iff.2 d5), Bool.not_true, Bool.not_false]) ?_
     refine EL.quick 35 [4] [(4, .bool (false))] (by kernel_rfl) ?_
     refine EL.done (by kernel_rfl) ?_
     refine EQ.code ?_
     refine EW.ret (by kernel_rfl) ?_
     obtain rfl := Option.some.inj H
     exact EQ.leave (.bool (false)) (by kernel_rfl) ⟨_, rfl, rfl, (hS.re [] [0, 0] rfl (sub_tail (sub_tail (sub_self))))⟩
   ·rw [if_neg d4] at H
    refine EL.keep [2, 3, 24] [(2, .pointer (some ⟨a1, 0, none⟩)), (3, .pointer (some ⟨a0, 0, none⟩)), (24, .bool (decide (b4 = c1)))] (by kernel_rfl) ?_
    refine EL.as' [(2, .pointer (some ⟨a1, 0, none⟩)), (3, .pointer (some ⟨a0, 0, none⟩)), (24, .bool (false))] (by simp only [dec_f d4, Bool.not_true, Bool.not_false]) ?_
    refine EL.quick 42 [4] [(4, .bool (false))] (by kernel_rfl) ?_
    refine EL.done (by kernel_rfl) ?_
    refine EQ.code ?_
    refine EW.ret (by kernel_rfl) ?_
    obtain rfl := Option.some.inj H
    exact EQ.leave (.bool (false)) (by kernel_rfl) ⟨_, rfl, rfl, (hS.re [] [0, 0] rfl (sub_self))⟩
  ·rw [if_neg d3] at H
   refine EL.keep [2, 3, 17] [(2, .pointer (some ⟨a1, 0, none⟩)), (3, .pointer (some ⟨a0, 0, none⟩)), (17, .bool (decide (b3 = c0)))] (by kernel_rfl) ?_
   refine EL.as' [(2, .pointer (some ⟨a1, 0, none⟩)), (3, .pointer (some ⟨a0, 0, none⟩)), (17, .bool (false))] (by simp only [dec_f d3, Bool.not_true, Bool.not_false]) ?_
   refine EL.quick 49 [4] [(4, .bool (false))] (by kernel_rfl) ?_
   refine EL.done (by kernel_rfl) ?_
   refine EQ.code ?_
   refine EW.ret (by kernel_rfl) ?_
   obtain rfl := Option.some.inj H
   exact EQ.leave (.bool (false)) (by kernel_rfl) ⟨_, rfl, rfl, (hS.re [] [0, 0] rfl (sub_self))⟩
 ·rw [if_neg d2] at H
  refine EL.keep [2, 3, 10] [(2, .pointer (some ⟨a1, 0, none⟩)), (3, .pointer (some ⟨a0, 0, none⟩)), (10, .bool (decide (b2 = b9)))] (by kernel_rfl) ?_
  refine EL.as' [(2, .pointer (some ⟨a1, 0, none⟩)), (3, .pointer (some ⟨a0, 0, none⟩)), (10, .bool (false))] (by simp only [dec_f d2, Bool.not_true, Bool.not_false]) ?_
  refine EL.quick 56 [4] [(4, .bool (false))] (by kernel_rfl) ?_
  refine EL.done (by kernel_rfl) ?_
  refine EQ.code ?_
  refine EW.ret (by kernel_rfl) ?_
  obtain rfl := Option.some.inj H
  exact EQ.leave (.bool (false)) (by kernel_rfl) ⟨_, rfl, rfl, (hS.re [] [0, 0] rfl (sub_self))⟩

/-! ### confidant/confidantref9.SameAll: function 21 -/
def confidantref9_SameAll.l0 (K : Nat) (a1 : List S36) (a2 : List S36) : Nat → Int → Option Bool
 | 0, _ => none
 | n + 1, a0 => if a0 < (a1.length : Int) then (if 0 ≤ a0 then (if a0 < (a2.length : Int) then (b1 (confidantref9_Same.f K ((a1.getD a0.toNat zS36).f0) ((a1.getD a0.toNat zS36).f1) ((a1.getD a0.toNat zS36).f2) ((a1.getD a0.toNat zS36).f3) ((a1.getD a0.toNat zS36).f4.f0) ((a1.getD a0.toNat zS36).f4.f1) ((a1.getD a0.toNat zS36).f4.f2) ((a1.getD a0.toNat zS36).f4.f3) ((a1.getD a0.toNat zS36).f5) ((a1.getD a0.toNat zS36).f6) ((a1.getD a0.toNat zS36).f7) ((a1.getD a0.toNat zS36).f8) ((a2.getD a0.toNat zS36).f0) ((a2.getD a0.toNat zS36).f1) ((a2.getD a0.toNat zS36).f2) ((a2.getD a0.toNat zS36).f3) ((a2.getD a0.toNat zS36).f4.f0) ((a2.getD a0.toNat zS36).f4.f1) ((a2.getD a0.toNat zS36).f4.f2) ((a2.getD a0.toNat zS36).f4.f3) ((a2.getD a0.toNat zS36).f5) ((a2.getD a0.toNat zS36).f6) ((a2.getD a0.toNat zS36).f7) ((a2.getD a0.toNat zS36).f8)) fun (b4 : Bool) => (if b4 = true then (confidantref9_SameAll.l0 K a1 a2 n (IntKind.i64.wrap (a0 + 1))) else (some false))) else none) else none) else (some true)
def confidantref9_SameAll.f (K : Nat) (a1 : List S36) (a2 : List S36) : Option Bool := if (a1.length : Int) = (a2.length : Int) then (confidantref9_SameAll.l0 K a1 a2 K 0) else (some false)
set_option maxRecDepth 100000 in
theorem confidantref9_SameAll.calls {K : Nat} {a1 : List S36} {a2 : List S36} {a7 : Option Addr} {a3 : Nat} {a8 : Option Addr} {a4 : Nat} {c0 : Bool} {B w : World} {os : List Ass} {rs : List Ro} (H : confidantref9_SameAll.f K a1 a2 = some c0) (hS : St B w (os) (Ro.sl kS36 a7 a3 a1 :: Ro.sl kS36 a8 a4 a2 :: rs)) :
  Calls Try.prog 21 [.slice a7 a1.length a3, .slice a8 a2.length a4].toArray w (fun en w' => ∃ v, en = .returned v ∧ v = .bool (c0) ∧ St B w' (os) (Ro.sl kS36 a7 a3 a1 :: Ro.sl kS36 a8 a4 a2 :: rs)) := by
 unfold confidantref9_SameAll.f at H
 refine calls_of_EW (args := [.slice a7 a1.length a3, .slice a8 a2.length a4]) (c := Cd21) 27 Try.func21 (by kernel_rfl) (by kernel_rfl) (by kernel_rfl) ?_
 refine EW.seq (x := Cd21.l) (y := Cd21.r) (by kernel_rfl) ?_
 refine EW.region (id := 0) (ops := Cd21.l.ops) (by kernel_rfl) ?_
 refine EL.quick 1 [0, 1] [(0, .slice a7 a1.length a3), (1, .slice a8 a2.length a4)] (by kernel_rfl) ?_
 refine EL.done (by kernel_rfl) ?_
 refine EQ.code ?_
 refine EW.seq (x := Cd21.r.l) (y := Cd21.r.r) (by kernel_rfl) ?_
 refine EW.seq (x := Cd21.r.l.l) (y := Cd21.r.l.r) (by kernel_rfl) ?_
 refine EW.region (id := 1) (ops := Cd21.r.l.l.ops) (by kernel_rfl) ?_
 refine EL.quick 5 [0, 1, 10] [(0, .slice a7 a1.length a3), (1, .slice a8 a2.length a4), (10, .bool (!(decide ((a1.length : Int) = (a2.length : Int)))))] (by kernel_rfl) ?_
 refine EL.done (by kernel_rfl) ?_
 refine EQ.code ?_
 refine EW.condQ (b := !(decide ((a1.length : Int) = (a2.length : Int)))) (o := (.tmp 10)) (x := Cd21.r.l.r.l) (y := Cd21.r.l.r.r) ((a1.length : Int) = (a2.length : Int)) (false) (by kernel_rfl) (by kernel_rfl) ⟨fun h => (by rw [decide_eq_true h] <;> rfl), fun h => (by rw [decide_eq_false h] <;> rfl)⟩ (fun b8 => ?_) (fun b8 => ?_)
 ·rw [if_pos b8] at H
  refine EW.skip (by kernel_rfl) ?_
  refine EQ.code ?_
  refine EW.seq (x := Cd21.r.r.l) (y := Cd21.r.r.r) (by kernel_rfl) ?_
  refine EW.seq (x := Cd21.r.r.l.l) (y := Cd21.r.r.l.r) (by kernel_rfl) ?_
  refine EW.region (id := 3) (ops := Cd21.r.r.l.l.ops) (by kernel_rfl) ?_
  refine EL.quick 1 [0, 1, 5] [(0, .slice a7 a1.length a3), (1, .slice a8 a2.length a4), (5, .int .i64 0)] (by kernel_rfl) ?_
  refine EL.done (by kernel_rfl) ?_
  refine EQ.code ?_
  refine EW.block (x := Cd21.r.r.l.r.l) (id := 0) (by kernel_rfl) ?_
  refine EW.loop (x := Cd21.r.r.l.r.l.l) (fun n a w => ∃ a0 : Int, Sat 27 [(0, .slice a7 a1.length a3), (1, .slice a8 a2.length a4), (5, .int .i64 a0)] a ∧ St B w (os) (Ro.sl kS36 a7 a3 a1 :: Ro.sl kS36 a8 a4 a2 :: rs) ∧ confidantref9_SameAll.l0 K a1 a2 n a0 = some c0) K (by kernel_rfl) ?_ (fun n a w hI => ?_)
  ·refine EQ.keep [0, 1, 5] [(0, .slice a7 a1.length a3), (1, .slice a8 a2.length a4), (5, .int .i64 0)] (by kernel_rfl) ?_
   exact fun a ha => ⟨0, ha, (hS.re [] [] rfl (sub_cons 0 rfl (sub_cons 1 rfl (sub_tail (sub_tail (sub_self)))))), H⟩
  ·obtain ⟨a0, ha, hS, H⟩ := hI
   obtain _ | n := n
   ·simp [confidantref9_SameAll.l0] at H
   rw [confidantref9_SameAll.l0.eq_2] at H
   refine EW.at ?_ a ha
   clear ha a
   refine EW.seq (x := Cd21.r.r.l.r.l.l.l) (y := Cd21.r.r.l.r.l.l.r) (by kernel_rfl) ?_
   refine EW.seq (x := Cd21.r.r.l.r.l.l.l.l) (y := Cd21.r.r.l.r.l.l.l.r) (by kernel_rfl) ?_
   refine EW.region (id := 4) (ops := Cd21.r.r.l.r.l.l.l.l.ops) (by kernel_rfl) ?_
   refine EL.quick 4 [0, 1, 5, 14] [(0, .slice a7 a1.length a3), (1, .slice a8 a2.length a4), (5, .int .i64 a0), (14, .bool (decide (a0 < (a1.length : Int))))] (by kernel_rfl) ?_
   refine EL.done (by kernel_rfl) ?_
   refine EQ.code ?_
   refine EW.condP (o := (.tmp 14)) (x := Cd21.r.r.l.r.l.l.l.r.l) (y := Cd21.r.r.l.r.l.l.l.r.r) (a0 < (a1.length : Int)) (by kernel_rfl) (by kernel_rfl) (fun b6 => ?_) (fun b6 => ?_)
   ·rw [if_pos b6] at H
    refine EW.skip (by kernel_rfl) ?_
    refine EQ.code ?_
    refine EW.seq (x := Cd21.r.r.l.r.l.l.r.l) (y := Cd21.r.r.l.r.l.l.r.r) (by kernel_rfl) ?_
    refine EW.block (x := Cd21.r.r.l.r.l.l.r.l.l) (id := 1) (by kernel_rfl) ?_
    refine EW.seq (x := Cd21.r.r.l.r.l.l.r.l.l.l) (y := Cd21.r.r.l.r.l.l.r.l.l.r) (by kernel_rfl) ?_
    obtain ⟨b5, H⟩ := ite_in H
    obtain ⟨a5, rfl⟩ := St.rd_some hS (Rd.ro 0 rfl) b5 b6
    obtain ⟨b7, H⟩ := ite_in H
    obtain ⟨a6, rfl⟩ := St.rd_some hS (Rd.ro 1 rfl) b5 b7
    obtain ⟨b4, c1, H⟩ := b1_out H
    refine EW.meet (id := 6) (ops := Cd21.r.r.l.r.l.l.r.l.l.l.ops) (fun a w => Sat 27 [(0, .slice (some a5) a1.length a3), (1, .slice (some a6) a2.length a4), (5, .int .i64 a0), (26, .bool (!(b4)))] a ∧ St B w (os) (Ro.sl kS36 (some a5) a3 a1 :: Ro.sl kS36 (some a6) a4 a2 :: rs)) (by kernel_rfl) ?_ (fun a w hI => ?_)
    ·have hS := hS.drew
     refine EW.draw (B := B) (id := 6) (ops := Cd21.r.r.l.r.l.l.r.l.l.l.ops) [] [Ro.sl kS36 (some a5) a3 a1, Ro.sl kS36 (some a6) a4 a2] (by kernel_rfl) (by kernel_rfl) ?_
     have hN : Region.noSelect Cd21.r.r.l.r.l.l.r.l.l.l.ops = true := (by kernel_rfl)
     have hF : freeAll Cd21.r.r.l.r.l.l.r.l.l.l.ops = true := (by kernel_rfl)
     have hC : Core B [] [Ro.sl kS36 (some a5) a3 a1, Ro.sl kS36 (some a6) a4 a2] _ := ⟨_, _, hS⟩
     refine ED.quick hN hF hC [0, 1, 4, 5] [0, 1, 5, 17, 18, 21, 22] 6 [(0, .slice (some a5) a1.length a3), (1, .slice (some a6) a2.length a4), (5, .int .i64 a0), (17, .slice (some a5) a1.length a3), (18, .int .i64 a0), (21, .slice (some a6) a2.length a4), (22, .int .i64 a0)] #[true, true, false, false, true, true, false, false, false, false] (by kernel_rfl) (by kernel_rfl) ?_
     refine ED.Y hN hF hC 2 5 #[true, true, true, false, true, true, false, false, false, false] (by kernel_rfl) (by kernel_rfl) rfl (fun _ _ _ hS => YO.idx 37 12 a5 a1.length a3 .i64 a0 19 (by kernel_rfl) (by kernel_rfl) (by kernel_rfl) (by kernel_rfl) b5 b6) ?_
     refine ED.Y hN hF hC 6 4 #[true, true, true, false, true, true, true, false, false, false] (by kernel_rfl) (by kernel_rfl) rfl (fun _ _ _ hS => YO.idx 37 12 a6 a2.length a4 .i64 a0 23 (by kernel_rfl) (by kernel_rfl) (by kernel_rfl) (by kernel_rfl) b5 b7) ?_
     refine ED.two 3 7 3 (by kernel_rfl) (by kernel_rfl) ?_ ?_
     ·refine EO.loadPt hS kS36 a5 a3 a1 (Rd.ro 0 rfl) zS36 cellsS36 factsS36 partsS36 a0 b5 b6 36 12 0 12 rfl (fun a9 => .agg #[.int .i32 ((a1.getD a0.toNat zS36).f0), .int .i64 ((a1.getD a0.toNat zS36).f1), .int .i64 ((a1.getD a0.toNat zS36).f2), .slice a9.1 ((a1.getD a0.toNat zS36).f3).length a9.2, .int .i32 ((a1.getD a0.toNat zS36).f4.f0), .int .i32 ((a1.getD a0.toNat zS36).f4.f1), .int .i32 ((a1.getD a0.toNat zS36).f4.f2), .int .i32 ((a1.getD a0.toNat zS36).f4.f3), .int .i64 ((a1.getD a0.toNat zS36).f5), .int .i64 ((a1.getD a0.toNat zS36).f6), .int .u32 ((a1.getD a0.toNat zS36).f7), .int .i64 ((a1.getD a0.toNat zS36).f8)]) 20 (by kernel_rfl) (by kernel_rfl) (by kernel_rfl) (fun a9 => (by kernel_rfl)) ?_
      intro a9 hS
      have hC : Core B [] [Ro.sl kS36 (some a5) a3 a1, Ro.sl kS36 (some a6) a4 a2] _ := ⟨_, _, hS.re [] [] rfl (sub_cons 1 rfl (sub_cons 2 rfl sub_self))⟩
      refine ⟨hC, ?_⟩
      refine ED.at' #[true, true, true, true, true, true, true, false, false, false] (by kernel_rfl) ?_
      refine ED.one 7 2 #[true, true, true, true, true, true, true, true, false, false] (by kernel_rfl) (by kernel_rfl) (by kernel_rfl) (EO.loadPt hS kS36 a6 a4 a2 (Rd.ro 2 rfl) zS36 cellsS36 factsS36 partsS36 a0 b5 b7 36 12 0 12 rfl (fun b0 => .agg #[.int .i32 ((a2.getD a0.toNat zS36).f0), .int .i64 ((a2.getD a0.toNat zS36).f1), .int .i64 ((a2.getD a0.toNat zS36).f2), .slice b0.1 ((a2.getD a0.toNat zS36).f3).length b0.2, .int .i32 ((a2.getD a0.toNat zS36).f4.f0), .int .i32 ((a2.getD a0.toNat zS36).f4.f1), .int .i32 ((a2.getD a0.toNat zS36).f4.f2), .int .i32 ((a2.getD a0.toNat zS36).f4.f3), .int .i64 ((a2.getD a0.toNat zS36).f5), .int .i64 ((a2.getD a0.toNat zS36).f6), .int .u32 ((a2.getD a0.toNat zS36).f7), .int .i64 ((a2.getD a0.toNat zS36).f8)]) 24 (by kernel_rfl) (by kernel_rfl) (by kernel_rfl) (fun b0 => (by kernel_rfl)) ?_)
      intro b0 hS
      have hC : Core B [] [Ro.sl kS36 (some a5) a3 a1, Ro.sl kS36 (some a6) a4 a2] _ := ⟨_, _, hS.re [] [] rfl (sub_cons 2 rfl (sub_cons 3 rfl sub_self))⟩
      refine ⟨hC, ?_⟩
      have hS : St B _ (os) (Ro.sl (Kd.int .i32) a9.1 a9.2 ((a1.getD a0.toNat zS36).f3) :: Ro.sl (Kd.int .i32) b0.1 b0.2 ((a2.getD a0.toNat zS36).f3) :: Ro.sl (Kd.int .i32) b0.1 b0.2 ((a2.getD a0.toNat zS36).f3) :: Ro.sl (Kd.int .i32) a9.1 a9.2 ((a1.getD a0.toNat zS36).f3) :: Ro.sl kS36 (some a5) a3 a1 :: Ro.sl kS36 (some a6) a4 a2 :: rs) := hS.re [] [] rfl (sub_cons 1 rfl (sub_cons 0 rfl sub_self))
      refine ED.one 8 1 #[true, true, true, true, true, true, true, true, true, false] (by kernel_rfl) (by kernel_rfl) (by kernel_rfl) (EO.callD 26 [.agg #[.int .i32 ((a1.getD a0.toNat zS36).f0), .int .i64 ((a1.getD a0.toNat zS36).f1), .int .i64 ((a1.getD a0.toNat zS36).f2), .slice a9.1 ((a1.getD a0.toNat zS36).f3).length a9.2, .int .i32 ((a1.getD a0.toNat zS36).f4.f0), .int .i32 ((a1.getD a0.toNat zS36).f4.f1), .int .i32 ((a1.getD a0.toNat zS36).f4.f2), .int .i32 ((a1.getD a0.toNat zS36).f4.f3), .int .i64 ((a1.getD a0.toNat zS36).f5), .int .i64 ((a1.getD a0.toNat zS36).f6), .int .u32 ((a1.getD a0.toNat zS36).f7), .int .i64 ((a1.getD a0.toNat zS36).f8)], .agg #[.int .i32 ((a2.getD a0.toNat zS36).f0), .int .i64 ((a2.getD a0.toNat zS36).f1), .int .i64 ((a2.getD a0.toNat zS36).f2), .slice b0.1 ((a2.getD a0.toNat zS36).f3).length b0.2, .int .i32 ((a2.getD a0.toNat zS36).f4.f0), .int .i32 ((a2.getD a0.toNat zS36).f4.f1), .int .i32 ((a2.getD a0.toNat zS36).f4.f2), .int .i32 ((a2.getD a0.toNat zS36).f4.f3), .int .i64 ((a2.getD a0.toNat zS36).f5), .int .i64 ((a2.getD a0.toNat zS36).f6), .int .u32 ((a2.getD a0.toNat zS36).f7), .int .i64 ((a2.getD a0.toNat zS36).f8)]] _ 25 (by kernel_rfl) (by kernel_rfl) (by kernel_rfl) (confidantref9_Same.calls c1 hS) ?_)
      rintro v w ⟨rfl, hS⟩
      have hC : Core B [] [Ro.sl kS36 (some a5) a3 a1, Ro.sl kS36 (some a6) a4 a2] _ := ⟨_, _, hS.re [] [] rfl (sub_cons 4 rfl (sub_cons 5 rfl sub_self))⟩
      refine ⟨hC, ?_⟩
      refine ED.quick hN hF hC [9] [0, 1, 5, 26] 0 [(0, .slice (some a5) a1.length a3), (1, .slice (some a6) a2.length a4), (5, .int .i64 a0), (26, .bool (!(b4)))] #[true, true, true, true, true, true, true, true, true, true] (by kernel_rfl) (by kernel_rfl) ?_
      refine ED.done (by kernel_rfl) ?_
      refine EQ.to ?_
      refine EQ.keep [0, 1, 5, 26] [(0, .slice (some a5) a1.length a3), (1, .slice (some a6) a2.length a4), (5, .int .i64 a0), (26, .bool (!(b4)))] (by kernel_rfl) ?_
      exact fun a ha => ⟨ha, (hS.re [] [] rfl (sub_cons 4 rfl (sub_cons 5 rfl (sub_tail (sub_tail (sub_tail (sub_tail (sub_tail (sub_tail (sub_self))))))))))⟩
     ·refine EO.loadPt hS kS36 a6 a4 a2 (Rd.ro 1 rfl) zS36 cellsS36 factsS36 partsS36 a0 b5 b7 36 12 0 12 rfl (fun b2 => .agg #[.int .i32 ((a2.getD a0.toNat zS36).f0), .int .i64 ((a2.getD a0.toNat zS36).f1), .int .i64 ((a2.getD a0.toNat zS36).f2), .slice b2.1 ((a2.getD a0.toNat zS36).f3).length b2.2, .int .i32 ((a2.getD a0.toNat zS36).f4.f0), .int .i32 ((a2.getD a0.toNat zS36).f4.f1), .int .i32 ((a2.getD a0.toNat zS36).f4.f2), .int .i32 ((a2.getD a0.toNat zS36).f4.f3), .int .i64 ((a2.getD a0.toNat zS36).f5), .int .i64 ((a2.getD a0.toNat zS36).f6), .int .u32 ((a2.getD a0.toNat zS36).f7), .int .i64 ((a2.getD a0.toNat zS36).f8)]) 24 (by kernel_rfl) (by kernel_rfl) (by kernel_rfl) (fun b2 => (by kernel_rfl)) ?_
      intro b2 hS
      have hC : Core B [] [Ro.sl kS36 (some a5) a3 a1, Ro.sl kS36 (some a6) a4 a2] _ := ⟨_, _, hS.re [] [] rfl (sub_cons 1 rfl (sub_cons 2 rfl sub_self))⟩
      refine ⟨hC, ?_⟩
      refine ED.at' #[true, true, true, false, true, true, true, true, false, false] (by kernel_rfl) ?_
      refine ED.one 3 2 #[true, true, true, true, true, true, true, true, false, false] (by kernel_rfl) (by kernel_rfl) (by kernel_rfl) (EO.loadPt hS kS36 a5 a3 a1 (Rd.ro 1 rfl) zS36 cellsS36 factsS36 partsS36 a0 b5 b6 36 12 0 12 rfl (fun b3 => .agg #[.int .i32 ((a1.getD a0.toNat zS36).f0), .int .i64 ((a1.getD a0.toNat zS36).f1), .int .i64 ((a1.getD a0.toNat zS36).f2), .slice b3.1 ((a1.getD a0.toNat zS36).f3).length b3.2, .int .i32 ((a1.getD a0.toNat zS36).f4.f0), .int .i32 ((a1.getD a0.toNat zS36).f4.f1), .int .i32 ((a1.getD a0.toNat zS36).f4.f2), .int .i32 ((a1.getD a0.toNat zS36).f4.f3), .int .i64 ((a1.getD a0.toNat zS36).f5), .int .i64 ((a1.getD a0.toNat zS36).f6), .int .u32 ((a1.getD a0.toNat zS36).f7), .int .i64 ((a1.getD a0.toNat zS36).f8)]) 20 (by kernel_rfl) (by kernel_rfl) (by kernel_rfl) (fun b3 => (by kernel_rfl)) ?_)
      intro b3 hS
      have hC : Core B [] [Ro.sl kS36 (some a5) a3 a1, Ro.sl kS36 (some a6) a4 a2] _ := ⟨_, _, hS.re [] [] rfl (sub_cons 2 rfl (sub_cons 3 rfl sub_self))⟩
      refine ⟨hC, ?_⟩
      have hS : St B _ (os) (Ro.sl (Kd.int .i32) b3.1 b3.2 ((a1.getD a0.toNat zS36).f3) :: Ro.sl (Kd.int .i32) b2.1 b2.2 ((a2.getD a0.toNat zS36).f3) :: Ro.sl (Kd.int .i32) b3.1 b3.2 ((a1.getD a0.toNat zS36).f3) :: Ro.sl (Kd.int .i32) b2.1 b2.2 ((a2.getD a0.toNat zS36).f3) :: Ro.sl kS36 (some a5) a3 a1 :: Ro.sl kS36 (some a6) a4 a2 :: rs) := hS.re [] [] rfl (sub_cons 0 rfl (sub_cons 1 rfl sub_self))
      refine ED.one 8 1 #[true, true, true, true, true, true, true, true, true, false] (by kernel_rfl) (by kernel_rfl) (by kernel_rfl) (EO.callD 26 [.agg #[.int .i32 ((a1.getD a0.toNat zS36).f0), .int .i64 ((a1.getD a0.toNat zS36).f1), .int .i64 ((a1.getD a0.toNat zS36).f2), .slice b3.1 ((a1.getD a0.toNat zS36).f3).length b3.2, .int .i32 ((a1.getD a0.toNat zS36).f4.f0), .int .i32 ((a1.getD a0.toNat zS36).f4.f1), .int .i32 ((a1.getD a0.toNat zS36).f4.f2), .int .i32 ((a1.getD a0.toNat zS36).f4.f3), .int .i64 ((a1.getD a0.toNat zS36).f5), .int .i64 ((a1.getD a0.toNat zS36).f6), .int .u32 ((a1.getD a0.toNat zS36).f7), .int .i64 ((a1.getD a0.toNat zS36).f8)], .agg #[.int .i32 ((a2.getD a0.toNat zS36).f0), .int .i64 ((a2.getD a0.toNat zS36).f1), .int .i64 ((a2.getD a0.toNat zS36).f2), .slice b2.1 ((a2.getD a0.toNat zS36).f3).length b2.2, .int .i32 ((a2.getD a0.toNat zS36).f4.f0), .int .i32 ((a2.getD a0.toNat zS36).f4.f1), .int .i32 ((a2.getD a0.toNat zS36).f4.f2), .int .i32 ((a2.getD a0.toNat zS36).f4.f3), .int .i64 ((a2.getD a0.toNat zS36).f5), .int .i64 ((a2.getD a0.toNat zS36).f6), .int .u32 ((a2.getD a0.toNat zS36).f7), .int .i64 ((a2.getD a0.toNat zS36).f8)]] _ 25 (by kernel_rfl) (by kernel_rfl) (by kernel_rfl) (confidantref9_Same.calls c1 hS) ?_)
      rintro v w ⟨rfl, hS⟩
      have hC : Core B [] [Ro.sl kS36 (some a5) a3 a1, Ro.sl kS36 (some a6) a4 a2] _ := ⟨_, _, hS.re [] [] rfl (sub_cons 4 rfl (sub_cons 5 rfl sub_self))⟩
      refine ⟨hC, ?_⟩
      refine ED.quick hN hF hC [9] [0, 1, 5, 26] 0 [(0, .slice (some a5) a1.length a3), (1, .slice (some a6) a2.length a4), (5, .int .i64 a0), (26, .bool (!(b4)))] #[true, true, true, true, true, true, true, true, true, true] (by kernel_rfl) (by kernel_rfl) ?_
      refine ED.done (by kernel_rfl) ?_
      refine EQ.to ?_
      refine EQ.keep [0, 1, 5, 26] [(0, .slice (some a5) a1.length a3), (1, .slice (some a6) a2.length a4), (5, .int .i64 a0), (26, .bool (!(b4)))] (by kernel_rfl) ?_
      exact fun a ha => ⟨ha, (hS.re [] [] rfl (sub_cons 4 rfl (sub_cons 5 rfl (sub_tail (sub_tail (sub_tail (sub_tail (sub_tail (sub_tail (sub_self))))))))))⟩
    ·obtain ⟨ha, hS⟩ := hI
     refine EQ.at ?_ a ha
     clear ha a
     refine EQ.code ?_
     refine EW.condQ (b := !(b4)) (o := (.tmp 26)) (x := Cd21.r.r.l.r.l.l.r.l.l.r.l) (y := Cd21.r.r.l.r.l.l.r.l.l.r.r) (b4 = true) (false) (by kernel_rfl) (by kernel_rfl) ⟨fun h => (by rw [h] <;> rfl), fun h => (by rw [Bool.eq_false_iff.2 h] <;> rfl)⟩ (fun b9 => ?_) (fun b9 => ?_)
     ·rw [if_pos b9] at H
      refine EW.skip (by kernel_rfl) ?_
      refine EQ.pop ?_
      refine EQ.code ?_
      refine EW.region (id := 5) (ops := Cd21.r.r.l.r.l.l.r.r.ops) (by kernel_rfl) ?_
      refine EL.quick 3 [0, 1, 5] [(0, .slice (some a5) a1.length a3), (1, .slice (some a6) a2.length a4), (5, .int .i64 (IntKind.i64.wrap (a0 + 1)))] (by kernel_rfl) ?_
      refine EL.done (by kernel_rfl) ?_
      refine EQ.to ?_
      refine EQ.keep [0, 1, 5] [(0, .slice (some a5) a1.length a3), (1, .slice (some a6) a2.length a4), (5, .int .i64 (IntKind.i64.wrap (a0 + 1)))] (by kernel_rfl) ?_
      exact fun a ha => ⟨n, Nat.lt_succ_self n, IntKind.i64.wrap (a0 + 1), ha, (hS.re [] [] rfl (sub_cons 0 rfl (sub_cons 1 rfl (sub_tail (sub_tail (sub_self)))))), H⟩
     ·rw [if_neg b9] at H
      refine EW.seq (x := Cd21.r.r.l.r.l.l.r.l.l.r.l.l) (y := Cd21.r.r.l.r.l.l.r.l.l.r.l.r) (by kernel_rfl) ?_
      refine EW.region (id := 7) (ops := Cd21.r.r.l.r.l.l.r.l.l.r.l.l.ops) (by kernel_rfl) ?_
      refine EL.quick 1 [4] [(4, .bool (false))] (by kernel_rfl) ?_
      refine EL.done (by kernel_rfl) ?_
      refine EQ.code ?_
      refine EW.ret (by kernel_rfl) ?_
      refine EQ.ret ?_
      refine EQ.ret ?_
      refine EQ.ret ?_
      refine EQ.ret ?_
      refine EQ.ret ?_
      obtain rfl := Option.some.inj H
      exact EQ.leave (.bool (false)) (by kernel_rfl) ⟨_, rfl, rfl, (hS.re [] [] rfl (sub_self))⟩
   ·rw [if_neg b6] at H
    refine EW.exit (id := 0) (by kernel_rfl) ?_
    refine EQ.exitCode ?_
    refine EQ.exitTo ?_
    refine EQ.exitHere ?_
    refine EQ.code ?_
    refine EW.seq (x := Cd21.r.r.r.l) (y := Cd21.r.r.r.r) (by kernel_rfl) ?_
    refine EW.region (id := 8) (ops := Cd21.r.r.r.l.ops) (by kernel_rfl) ?_
    refine EL.quick 1 [4] [(4, .bool (true))] (by kernel_rfl) ?_
    refine EL.done (by kernel_rfl) ?_
    refine EQ.code ?_
    refine EW.ret (by kernel_rfl) ?_
    obtain rfl := Option.some.inj H
    exact EQ.leave (.bool (true)) (by kernel_rfl) ⟨_, rfl, rfl, (hS.re [] [] rfl (sub_self))⟩
 ·rw [if_neg b8] at H
  refine EW.seq (x := Cd21.r.l.r.l.l) (y := Cd21.r.l.r.l.r) (by kernel_rfl) ?_
  refine EW.region (id := 2) (ops := Cd21.r.l.r.l.l.ops) (by kernel_rfl) ?_
  refine EL.quick 1 [4] [(4, .bool (false))] (by kernel_rfl) ?_
  refine EL.done (by kernel_rfl) ?_
  refine EQ.code ?_
  refine EW.ret (by kernel_rfl) ?_
  refine EQ.ret ?_
  obtain rfl := Option.some.inj H
  exact EQ.leave (.bool (false)) (by kernel_rfl) ⟨_, rfl, rfl, (hS.re [] [] rfl (sub_self))⟩

end Go.Proofs.Ytipaaapbapijhaa.G
