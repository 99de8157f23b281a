import Derived.Test.YtifnjijlbcacoaaProg
import Derived.Test.YtifnjijlbcacoaaFwEq
import Derived.Test.YtifnjijlbcacoaaFwOpen
import Derived.Test.YtifnjijlbcacoaaG0
import Derived.Test.YtifnjijlbcacoaaG1
import Derived.Test.YtifnjijlbcacoaaG2
namespace Go.Proofs.Ytifnjijlbcacoaa.G
open Go Go.Fw Go.RowKit Go.Proofs
set_option linter.unusedVariables false
set_option linter.unusedSimpArgs false

/-! ### confidant/confidantlaw12.ArenaHolds: function 11 -/
def confidantlaw12_ArenaHolds.l2 (K : Nat) (l7 : List Int) (x6642 : List (List S69)) (t5168 : List Int) (x6645 : List Int) (j7198 : Option Bool) : Nat → Int → Option Bool
  | 0, _ => none
  | n + 1, x7255 => if x7255 < (l7.length : Int) then (b3 (arena_Arena_Get.f K x6642 t5168 (IntKind.i32.wrap x7255)) fun (t7354 : Int) (t7355 : Int) (t7356 : Bool) => (lt (fun (x7370 : Bool) => (if x7370 = true then (some false) else (confidantlaw12_ArenaHolds.l2 K l7 x6642 t5168 x6645 j7198 n (IntKind.i64.wrap (x7255 + 1))))) fun j7371 => (if t7356 = true then (if 0 ≤ x7255 then (if x7255 < (x6645.length : Int) then (if t7355 = (x6645.getD x7255.toNat 0) then (j7371 (!(decide (t7354 = (Int.tmod x7255 16))))) else (j7371 true)) else none) else none) else (j7371 true)))) else (j7198)
def confidantlaw12_ArenaHolds.l1 (K : Nat) (l10 : List Int) (l7 : List Int) (t5168 : List Int) (j6648 : (List (List S69)) → (List Int) → Option Bool) : Nat → (List (List S69)) → (List Int) → Int → Option Bool
  | 0, _, _, _ => none
  | n + 1, x6715, x6718, x6721 => if x6721 < (l10.length : Int) then (if 0 ≤ x6721 then (if (l7.length : Int) = 0 then none else (if 0 ≤ (Int.tmod (IntKind.i64.wrap (l10.getD x6721.toNat 0)) (l7.length : Int)) then (if (Int.tmod (IntKind.i64.wrap (l10.getD x6721.toNat 0)) (l7.length : Int)) < (x6718.length : Int) then (lt (x6718.set (Int.tmod (IntKind.i64.wrap (l10.getD x6721.toNat 0)) (l7.length : Int)).toNat (IntKind.i32.wrap x6721)) fun l6828 => (b2 (arena_Arena_Set.f K x6715 t5168 (IntKind.i32.wrap (Int.tmod (IntKind.i64.wrap (l10.getD x6721.toNat 0)) (l7.length : Int))) (IntKind.i32.wrap x6721)) fun (t6834 : List (List S69)) (t6835 : Bool) => (if t6835 = true then (confidantlaw12_ArenaHolds.l1 K l10 l7 t5168 j6648 n t6834 l6828 (IntKind.i64.wrap (x6721 + 1))) else (some false)))) else none) else none)) else none) else (j6648 x6715 x6718)
def confidantlaw12_ArenaHolds.l0 (K : Nat) (l7 : List Int) (t5168 : List Int) (j5899 : (List (List S69)) → (List Int) → Option Bool) : Nat → (List (List S69)) → (List Int) → Int → Option Bool
  | 0, _, _, _ => none
  | n + 1, x6083, x6086, x6090 => if x6090 < (l7.length : Int) then (if 0 ≤ x6090 then (b3 (arena_Arena_Make.f K x6083 t5168 0 (Int.tmod x6090 16) (l7.getD x6090.toNat 0)) fun (t6228 : List (List S69)) (t6229 : Int) (t6230 : Bool) => (lt (fun (x6244 : Bool) => (if x6244 = true then (some false) else (lt ([(l7.getD x6090.toNat 0)] : List Int) fun l6249 => (if (x6086.length + l6249.length) * 4 ≤ 140737488355328 then (lt (x6086 ++ l6249) fun l6251 => (confidantlaw12_ArenaHolds.l0 K l7 t5168 j5899 n t6228 l6251 (IntKind.i64.wrap (x6090 + 1)))) else none)))) fun j6245 => (if t6230 = true then (j6245 (!(decide ((IntKind.i64.wrap t6229) = x6090)))) else (j6245 true)))) else none) else (j5899 x6083 x6086)
def confidantlaw12_ArenaHolds.f (K : Nat) (l7 : List Int) (l10 : List Int) : Option Bool := b1 (confidantlaw12_known.f K) fun (t5132 : Bool) => (if t5132 = true then (lt (fun (x5150 : Bool) => (if x5150 = true then (some true) else (lt ([30] : List Int) fun l5166 => (b2 (arena_New.f K l5166) fun (t5167 : List (List S69)) (t5168 : List Int) => (lt (fun (x5891 : List (List S69)) (x5894 : List Int) => (lt (fun (x6642 : List (List S69)) (x6645 : List Int) => (lt (b2 (arena_Arena_Set.f K x6642 t5168 (IntKind.i32.wrap (l7.length : Int)) 0) fun (t7378 : List (List S69)) (t7379 : Bool) => (if t7379 = true then (some false) else (b2 (arena_Arena_Set.f K t7378 t5168 (-1) 0) fun (t7384 : List (List S69)) (t7385 : Bool) => (if t7385 = true then (some false) else (b1 (arena_Arena_Count.f K t7384 t5168 0) fun (t7390 : Int) => (some (decide (t7390 = (l7.length : Int))))))))) fun j7198 => (confidantlaw12_ArenaHolds.l2 K l7 x6642 t5168 x6645 j7198 K 0))) fun j6648 => (confidantlaw12_ArenaHolds.l1 K l10 l7 t5168 j6648 K x5891 x5894 0))) fun j5899 => (confidantlaw12_ArenaHolds.l0 K l7 t5168 j5899 K t5167 ([] : List Int) 0)))))) fun j5151 => (if (l7.length : Int) > 20 then (j5151 true) else (if (l7.length : Int) = 0 then (j5151 true) else (j5151 (decide ((l10.length : Int) > 40)))))) else (some false))
set_option maxRecDepth 100000 in
theorem confidantlaw12_ArenaHolds.calls {K : Nat} {l7 : List Int} {l10 : List Int} {A8 : Option Addr} {C9 : Nat} {A11 : Option Addr} {C12 : Nat} {x5124 : Bool} {B w : World} {os : List Ass} {rs : List Ro} (H : confidantlaw12_ArenaHolds.f K l7 l10 = some x5124) (hS : St B w (os) (Ro.sl (Kd.int .i32) A8 C9 l7 :: Ro.sl (Kd.int .u8) A11 C12 l10 :: rs)) :
    Calls Try.prog 11 [.slice A8 l7.length C9, .slice A11 l10.length C12].toArray w (fun en w' => ∃ v, en = .returned v ∧ v = .bool (x5124) ∧ St B w' (os) (Ro.sl (Kd.int .i32) A8 C9 l7 :: Ro.sl (Kd.int .u8) A11 C12 l10 :: rs)) := by
  unfold confidantlaw12_ArenaHolds.f at H
  refine calls_of_EW (args := [.slice A8 l7.length C9, .slice A11 l10.length C12]) (c := Cd11) 139 Try.func11 (by kernel_rfl) (by kernel_rfl) (by kernel_rfl) ?_
  refine EW.seq (x := Cd11.l) (y := Cd11.r) (by kernel_rfl) ?_
  refine EW.region (id := 0) (ops := Cd11.l.ops) (by kernel_rfl) ?_
  refine EL.quick 1 [0, 1] [(0, .slice A8 l7.length C9), (1, .slice A11 l10.length C12)] (by kernel_rfl) ?_
  refine EL.done (by kernel_rfl) ?_
  refine EQ.code ?_
  refine EW.seq (x := Cd11.r.l) (y := Cd11.r.r) (by kernel_rfl) ?_
  refine EW.seq (x := Cd11.r.l.l) (y := Cd11.r.l.r) (by kernel_rfl) ?_
  refine EW.region (id := 1) (ops := Cd11.r.l.l.ops) (by kernel_rfl) ?_
  obtain ⟨t5132, hc5133, H⟩ := b1_out H
  refine EL.of (EO.callD 32 [] _ 15 (by kernel_rfl) (by kernel_rfl) (by kernel_rfl) (confidantlaw12_known.calls hc5133 hS) ?_)
  rintro v w ⟨rfl, hS⟩
  refine EL.quick 1 [0, 1, 16] [(0, .slice A8 l7.length C9), (1, .slice A11 l10.length C12), (16, .bool (!(t5132)))] (by kernel_rfl) ?_
  refine EL.done (by kernel_rfl) ?_
  refine EQ.code ?_
  refine EW.condQ (b := !(t5132)) (o := (.tmp 16)) (x := Cd11.r.l.r.l) (y := Cd11.r.l.r.r) (t5132 = true) (false) (by kernel_rfl) (by kernel_rfl) ⟨fun h => (by rw [h] <;> rfl), fun h => (by rw [Bool.eq_false_iff.2 h] <;> rfl)⟩ (fun h5134 => ?_) (fun h5134 => ?_)
  · rw [if_pos h5134] at H
    refine EW.skip (by kernel_rfl) ?_
    refine EQ.code ?_
    refine EW.seq (x := Cd11.r.r.l) (y := Cd11.r.r.r) (by kernel_rfl) ?_
    obtain ⟨j5151, hj5151, H⟩ := lt_out H
    refine EW.cut (x := Cd11.r.r.l.l) (y := Cd11.r.r.l.r) (fun a w => ∃ x5150 : Bool, Sat 139 [(0, .slice A8 l7.length C9), (1, .slice A11 l10.length C12), (29, .bool (x5150))] a ∧ St B w (os) (Ro.sl (Kd.int .i32) A8 C9 l7 :: Ro.sl (Kd.int .u8) A11 C12 l10 :: rs) ∧ j5151 x5150 = some x5124) (by kernel_rfl) ?_ (fun a w hI => ?_)
    · refine EW.region (id := 3) (ops := Cd11.r.r.l.l.ops) (by kernel_rfl) ?_
      refine EL.quick 4 [0, 1, 20] [(0, .slice A8 l7.length C9), (1, .slice A11 l10.length C12), (20, .bool (decide ((l7.length : Int) > 20)))] (by kernel_rfl) ?_
      by_cases h5152 : (l7.length : Int) > 20
      · rw [if_pos h5152] at H
        refine EL.keep [0, 1, 20] [(0, .slice A8 l7.length C9), (1, .slice A11 l10.length C12), (20, .bool (decide ((l7.length : Int) > 20)))] (by kernel_rfl) ?_
        refine EL.as' [(0, .slice A8 l7.length C9), (1, .slice A11 l10.length C12), (20, .bool (true))] (by simp only [dec_t h5152, Bool.not_true, Bool.not_false]) ?_
        refine EL.quick 9 [0, 1, 29] [(0, .slice A8 l7.length C9), (1, .slice A11 l10.length C12), (29, .bool (true))] (by kernel_rfl) ?_
        refine EL.done (by kernel_rfl) ?_
        refine EQ.to ?_
        refine EQ.keep [0, 1, 29] [(0, .slice A8 l7.length C9), (1, .slice A11 l10.length C12), (29, .bool (true))] (by kernel_rfl) ?_
        exact fun a ha => ⟨true, ha, (hS.re [] [] rfl (sub_cons 0 rfl (sub_cons 1 rfl (sub_tail (sub_tail (sub_self)))))), H⟩
      · rw [if_neg h5152] at H
        refine EL.keep [0, 1, 20] [(0, .slice A8 l7.length C9), (1, .slice A11 l10.length C12), (20, .bool (decide ((l7.length : Int) > 20)))] (by kernel_rfl) ?_
        refine EL.as' [(0, .slice A8 l7.length C9), (1, .slice A11 l10.length C12), (20, .bool (false))] (by simp only [dec_f h5152, Bool.not_true, Bool.not_false]) ?_
        refine EL.quick 5 [0, 1, 25] [(0, .slice A8 l7.length C9), (1, .slice A11 l10.length C12), (25, .bool (decide ((l7.length : Int) = 0)))] (by kernel_rfl) ?_
        by_cases h5153 : (l7.length : Int) = 0
        · rw [if_pos h5153] at H
          refine EL.keep [0, 1, 25] [(0, .slice A8 l7.length C9), (1, .slice A11 l10.length C12), (25, .bool (decide ((l7.length : Int) = 0)))] (by kernel_rfl) ?_
          refine EL.as' [(0, .slice A8 l7.length C9), (1, .slice A11 l10.length C12), (25, .bool (true))] (by simp only [dec_t h5153, Bool.not_true, Bool.not_false]) ?_
          refine EL.quick 4 [0, 1, 29] [(0, .slice A8 l7.length C9), (1, .slice A11 l10.length C12), (29, .bool (true))] (by kernel_rfl) ?_
          refine EL.done (by kernel_rfl) ?_
          refine EQ.to ?_
          refine EQ.keep [0, 1, 29] [(0, .slice A8 l7.length C9), (1, .slice A11 l10.length C12), (29, .bool (true))] (by kernel_rfl) ?_
          exact fun a ha => ⟨true, ha, (hS.re [] [] rfl (sub_cons 0 rfl (sub_cons 1 rfl (sub_tail (sub_tail (sub_self)))))), H⟩
        · rw [if_neg h5153] at H
          refine EL.keep [0, 1, 25] [(0, .slice A8 l7.length C9), (1, .slice A11 l10.length C12), (25, .bool (decide ((l7.length : Int) = 0)))] (by kernel_rfl) ?_
          refine EL.as' [(0, .slice A8 l7.length C9), (1, .slice A11 l10.length C12), (25, .bool (false))] (by simp only [dec_f h5153, Bool.not_true, Bool.not_false]) ?_
          refine EL.quick 4 [0, 1, 29] [(0, .slice A8 l7.length C9), (1, .slice A11 l10.length C12), (29, .bool (decide ((l10.length : Int) > 40)))] (by kernel_rfl) ?_
          refine EL.done (by kernel_rfl) ?_
          refine EQ.to ?_
          refine EQ.keep [0, 1, 29] [(0, .slice A8 l7.length C9), (1, .slice A11 l10.length C12), (29, .bool (decide ((l10.length : Int) > 40)))] (by kernel_rfl) ?_
          exact fun a ha => ⟨decide ((l10.length : Int) > 40), ha, (hS.re [] [] rfl (sub_cons 0 rfl (sub_cons 1 rfl (sub_tail (sub_tail (sub_self)))))), H⟩
    · obtain ⟨x5150, ha, hS, H⟩ := hI
      rw [hj5151] at H
      (try dsimp only at H)
      refine EW.at ?_ a ha
      clear ha a
      refine EW.condP' (o := (.tmp 29)) (x := Cd11.r.r.l.r.l) (y := Cd11.r.r.l.r.r) (x5150) (by kernel_rfl) (by kernel_rfl) (fun h5154 => ?_) (fun h5154 => ?_)
      · rw [if_pos h5154] at H
        refine EW.seq (x := Cd11.r.r.l.r.l.l) (y := Cd11.r.r.l.r.l.r) (by kernel_rfl) ?_
        refine EW.region (id := 4) (ops := Cd11.r.r.l.r.l.l.ops) (by kernel_rfl) ?_
        refine EL.quick 1 [4] [(4, .bool (true))] (by kernel_rfl) ?_
        refine EL.done (by kernel_rfl) ?_
        refine EQ.code ?_
        refine EW.ret (by kernel_rfl) ?_
        refine EQ.ret ?_
        obtain rfl := Option.some.inj H
        exact EQ.leave (.bool (true)) (by kernel_rfl) ⟨_, rfl, rfl, (hS.re [] [] rfl (sub_self))⟩
      · rw [if_neg h5154] at H
        refine EW.skip (by kernel_rfl) ?_
        refine EQ.code ?_
        refine EW.seq (x := Cd11.r.r.r.l) (y := Cd11.r.r.r.r) (by kernel_rfl) ?_
        refine EW.region (id := 5) (ops := Cd11.r.r.r.l.ops) (by kernel_rfl) ?_
        obtain ⟨l5166, hl5166, H⟩ := lt_out H
        refine EL.of (EO.lit hS (Kd.int .i64) 3 24 1 #[(0, .int .i64 30)] [.int .i64 30] l5166 30 (by kernel_rfl) (by kernel_rfl) (by kernel_rfl) (fun _ => (by kernel_rfl)) (by rw [hl5166]; rfl) (by kernel_rfl) (fun w G hr => (by rw [hl5166]; exact ⟨[.int .i64 30], [], rfl, rfl, rfl⟩)) ?_)
        intro g5165 w hS
        have hS := St.fr hS 0 rfl
        have hS : St B _ (os) (Ro.sl (Kd.int .i64) (some ⟨g5165, 0, none⟩) 1 l5166 :: Ro.sl (Kd.int .i64) (some ⟨g5165, 0, none⟩) 1 l5166 :: Ro.sl (Kd.int .i32) A8 C9 l7 :: Ro.sl (Kd.int .u8) A11 C12 l10 :: rs) := hS.re [] [] rfl (sub_cons 0 rfl sub_self)
        obtain ⟨t5167, t5168, hc5174, H⟩ := b2_out H
        refine EL.of (EO.callD 34 [.slice (some ⟨g5165, 0, none⟩) l5166.length 1] _ 31 (by kernel_rfl) (by kernel_rfl) (by kernel_rfl) (arena_New.calls hc5174 hS) ?_)
        rintro v w ⟨g5169, A5170, C5171, A5172, C5173, rfl, hS⟩
        refine EL.quick 1 [0, 1, 5] [(0, .slice A8 l7.length C9), (1, .slice A11 l10.length C12), (5, .pointer (some ⟨g5169, 0, none⟩))] (by kernel_rfl) ?_
        refine EL.done (by kernel_rfl) ?_
        refine EQ.code ?_
        refine EW.seq (x := Cd11.r.r.r.r.l) (y := Cd11.r.r.r.r.r) (by kernel_rfl) ?_
        refine EW.region (id := 6) (ops := Cd11.r.r.r.r.l.ops) (by kernel_rfl) ?_
        refine EL.quick 1 [0, 1, 5, 6] [(0, .slice A8 l7.length C9), (1, .slice A11 l10.length C12), (5, .pointer (some ⟨g5169, 0, none⟩)), (6, .slice none ([] : List Int).length 0)] (by kernel_rfl) ?_
        refine EL.done (by kernel_rfl) ?_
        refine EQ.code ?_
        obtain ⟨j5899, hj5899, H⟩ := lt_out H
        refine EW.cut (x := Cd11.r.r.r.r.r.l) (y := Cd11.r.r.r.r.r.r) (fun a w => ∃ x5891 : List (List S69), ∃ x5894 : List Int, ∃ A5892 : Option Addr, ∃ C5893 : Nat, ∃ A5895 : Option Addr, ∃ C5896 : Nat, Sat 139 [(0, .slice A8 l7.length C9), (1, .slice A11 l10.length C12), (5, .pointer (some ⟨g5169, 0, none⟩)), (6, .slice A5895 x5894.length C5896)] a ∧ St B w (Ass.box 95 g5169 [.slice A5892 x5891.length C5893, .slice A5172 t5168.length C5173] :: Ass.deep 76 69 kS69 A5892 C5893 x5891 :: Ass.own 3 (Kd.int .i64) A5172 C5173 t5168 :: Ass.own 21 (Kd.int .i32) A5895 C5896 x5894 :: os) (Ro.sl (Kd.int .i64) (some ⟨g5165, 0, none⟩) 1 l5166 :: Ro.sl (Kd.int .i64) (some ⟨g5165, 0, none⟩) 1 l5166 :: Ro.sl (Kd.int .i32) A8 C9 l7 :: Ro.sl (Kd.int .u8) A11 C12 l10 :: rs) ∧ j5899 x5891 x5894 = some x5124) (by kernel_rfl) ?_ (fun a w hI => ?_)
        · refine EW.seq (x := Cd11.r.r.r.r.r.l.l) (y := Cd11.r.r.r.r.r.l.r) (by kernel_rfl) ?_
          refine EW.region (id := 7) (ops := Cd11.r.r.r.r.r.l.l.ops) (by kernel_rfl) ?_
          refine EL.quick 1 [0, 1, 5, 6, 7] [(0, .slice A8 l7.length C9), (1, .slice A11 l10.length C12), (5, .pointer (some ⟨g5169, 0, none⟩)), (6, .slice none ([] : List Int).length 0), (7, .int .i64 0)] (by kernel_rfl) ?_
          refine EL.done (by kernel_rfl) ?_
          refine EQ.code ?_
          refine EW.block (x := Cd11.r.r.r.r.r.l.r.l) (id := 0) (by kernel_rfl) ?_
          have hS := St.nilO hS 21 (Kd.int .i32)
          refine EW.loop (x := Cd11.r.r.r.r.r.l.r.l.l) (fun n a w => ∃ x6083 : List (List S69), ∃ x6086 : List Int, ∃ x6090 : Int, ∃ A6084 : Option Addr, ∃ C6085 : Nat, ∃ A6087 : Option Addr, ∃ C6088 : Nat, Sat 139 [(0, .slice A8 l7.length C9), (1, .slice A11 l10.length C12), (5, .pointer (some ⟨g5169, 0, none⟩)), (6, .slice A6087 x6086.length C6088), (7, .int .i64 x6090)] a ∧ St B w (Ass.box 95 g5169 [.slice A6084 x6083.length C6085, .slice A5172 t5168.length C5173] :: Ass.deep 76 69 kS69 A6084 C6085 x6083 :: Ass.own 3 (Kd.int .i64) A5172 C5173 t5168 :: Ass.own 21 (Kd.int .i32) A6087 C6088 x6086 :: os) (Ro.sl (Kd.int .i64) (some ⟨g5165, 0, none⟩) 1 l5166 :: Ro.sl (Kd.int .i64) (some ⟨g5165, 0, none⟩) 1 l5166 :: Ro.sl (Kd.int .i32) A8 C9 l7 :: Ro.sl (Kd.int .u8) A11 C12 l10 :: rs) ∧ confidantlaw12_ArenaHolds.l0 K l7 t5168 j5899 n x6083 x6086 x6090 = some x5124) K (by kernel_rfl) ?_ (fun n a w hI => ?_)
          · refine EQ.keep [0, 1, 5, 6, 7] [(0, .slice A8 l7.length C9), (1, .slice A11 l10.length C12), (5, .pointer (some ⟨g5169, 0, none⟩)), (6, .slice none ([] : List Int).length 0), (7, .int .i64 0)] (by kernel_rfl) ?_
            exact fun a ha => ⟨t5167, ([] : List Int), 0, A5170, C5171, none, 0, ha, (hS.re [0, 3, 3, 3] [] rfl (sub_cons 0 rfl (sub_cons 0 rfl (sub_cons 2 rfl (sub_cons 3 rfl (sub_tail (sub_tail (sub_tail (sub_tail (sub_self)))))))))), H⟩
          · obtain ⟨x6083, x6086, x6090, A6084, C6085, A6087, C6088, ha, hS, H⟩ := hI
            obtain _ | n := n
            · simp [confidantlaw12_ArenaHolds.l0] at H
            rw [confidantlaw12_ArenaHolds.l0.eq_2] at H
            refine EW.at ?_ a ha
            clear ha a
            refine EW.seq (x := Cd11.r.r.r.r.r.l.r.l.l.l) (y := Cd11.r.r.r.r.r.l.r.l.l.r) (by kernel_rfl) ?_
            refine EW.seq (x := Cd11.r.r.r.r.r.l.r.l.l.l.l) (y := Cd11.r.r.r.r.r.l.r.l.l.l.r) (by kernel_rfl) ?_
            refine EW.region (id := 8) (ops := Cd11.r.r.r.r.r.l.r.l.l.l.l.ops) (by kernel_rfl) ?_
            refine EL.quick 4 [0, 1, 5, 6, 7, 35] [(0, .slice A8 l7.length C9), (1, .slice A11 l10.length C12), (5, .pointer (some ⟨g5169, 0, none⟩)), (6, .slice A6087 x6086.length C6088), (7, .int .i64 x6090), (35, .bool (decide (x6090 < (l7.length : Int))))] (by kernel_rfl) ?_
            refine EL.done (by kernel_rfl) ?_
            refine EQ.code ?_
            refine EW.condP (o := (.tmp 35)) (x := Cd11.r.r.r.r.r.l.r.l.l.l.r.l) (y := Cd11.r.r.r.r.r.l.r.l.l.l.r.r) (x6090 < (l7.length : Int)) (by kernel_rfl) (by kernel_rfl) (fun h6181 => ?_) (fun h6181 => ?_)
            · rw [if_pos h6181] at H
              refine EW.skip (by kernel_rfl) ?_
              refine EQ.code ?_
              refine EW.seq (x := Cd11.r.r.r.r.r.l.r.l.l.r.l) (y := Cd11.r.r.r.r.r.l.r.l.l.r.r) (by kernel_rfl) ?_
              refine EW.block (x := Cd11.r.r.r.r.r.l.r.l.l.r.l.l) (id := 1) (by kernel_rfl) ?_
              refine EW.seq (x := Cd11.r.r.r.r.r.l.r.l.l.r.l.l.l) (y := Cd11.r.r.r.r.r.l.r.l.l.r.l.l.r) (by kernel_rfl) ?_
              refine EW.region (id := 10) (ops := Cd11.r.r.r.r.r.l.r.l.l.r.l.l.l.ops) (by kernel_rfl) ?_
              refine EL.quick 5 [0, 1, 5, 6, 7, 39, 41, 42, 43] [(0, .slice A8 l7.length C9), (1, .slice A11 l10.length C12), (5, .pointer (some ⟨g5169, 0, none⟩)), (6, .slice A6087 x6086.length C6088), (7, .int .i64 x6090), (39, .pointer (some ⟨g5169, 0, none⟩)), (41, .int .i64 (Int.tmod x6090 16)), (42, .slice A8 l7.length C9), (43, .int .i64 x6090)] (by kernel_rfl) ?_
              obtain ⟨h6226, H⟩ := ite_in H
              obtain ⟨ad6227, rfl⟩ := St.rd_some hS (Rd.ro 2 rfl) h6226 h6181
              refine EL.of (EO.Y (YO.idx 80 1 ad6227 l7.length C9 .i64 x6090 44 (by kernel_rfl) (by kernel_rfl) (by kernel_rfl) (by kernel_rfl) h6226 h6181) ?_)
              refine EL.of (EO.Y (YO.loadEl hS (Kd.int .i32) ad6227 C9 l7 (Rd.ro 2 rfl) 0 (encI .i32) encI_of x6090 h6226 h6181 21 1 0 1 rfl (.int .i32 (l7.getD x6090.toNat 0)) 45 (by kernel_rfl) (by kernel_rfl) (by kernel_rfl) (by kernel_rfl)) ?_)
              obtain ⟨t6228, t6229, t6230, hc6233, H⟩ := b3_out H
              refine EL.of (EO.callD 36 [.pointer (some ⟨g5169, 0, none⟩), .int .i64 0, .int .i64 (Int.tmod x6090 16), .int .i32 (l7.getD x6090.toNat 0)] _ 46 (by kernel_rfl) (by kernel_rfl) (by kernel_rfl) (arena_Arena_Make.calls hc6233 hS) ?_)
              rintro v w ⟨A6231, C6232, rfl, hS⟩
              refine EL.quick 5 [0, 1, 5, 6, 7, 8, 9] [(0, .slice (some ad6227) l7.length C9), (1, .slice A11 l10.length C12), (5, .pointer (some ⟨g5169, 0, none⟩)), (6, .slice A6087 x6086.length C6088), (7, .int .i64 x6090), (8, .int .i32 t6229), (9, .bool (t6230))] (by kernel_rfl) ?_
              refine EL.done (by kernel_rfl) ?_
              refine EQ.code ?_
              refine EW.seq (x := Cd11.r.r.r.r.r.l.r.l.l.r.l.l.r.l) (y := Cd11.r.r.r.r.r.l.r.l.l.r.l.l.r.r) (by kernel_rfl) ?_
              obtain ⟨j6245, hj6245, H⟩ := lt_out H
              refine EW.cut (x := Cd11.r.r.r.r.r.l.r.l.l.r.l.l.r.l.l) (y := Cd11.r.r.r.r.r.l.r.l.l.r.l.l.r.l.r) (fun a w => ∃ x6244 : Bool, Sat 139 [(0, .slice (some ad6227) l7.length C9), (1, .slice A11 l10.length C12), (5, .pointer (some ⟨g5169, 0, none⟩)), (6, .slice A6087 x6086.length C6088), (7, .int .i64 x6090), (56, .bool (x6244))] a ∧ St B w (Ass.box 95 g5169 [.slice A6231 t6228.length C6232, .slice A5172 t5168.length C5173] :: Ass.deep 76 69 kS69 A6231 C6232 t6228 :: Ass.own 3 (Kd.int .i64) A5172 C5173 t5168 :: Ass.own 21 (Kd.int .i32) A6087 C6088 x6086 :: os) (Ro.sl (Kd.int .i64) (some ⟨g5165, 0, none⟩) 1 l5166 :: Ro.sl (Kd.int .i64) (some ⟨g5165, 0, none⟩) 1 l5166 :: Ro.sl (Kd.int .i32) (some ad6227) C9 l7 :: Ro.sl (Kd.int .u8) A11 C12 l10 :: rs) ∧ j6245 x6244 = some x5124) (by kernel_rfl) ?_ (fun a w hI => ?_)
              · refine EW.region (id := 11) (ops := Cd11.r.r.r.r.r.l.r.l.l.r.l.l.r.l.l.ops) (by kernel_rfl) ?_
                refine EL.quick 3 [0, 1, 5, 6, 7, 8, 51] [(0, .slice (some ad6227) l7.length C9), (1, .slice A11 l10.length C12), (5, .pointer (some ⟨g5169, 0, none⟩)), (6, .slice A6087 x6086.length C6088), (7, .int .i64 x6090), (8, .int .i32 t6229), (51, .bool (!(t6230)))] (by kernel_rfl) ?_
                by_cases h6246 : t6230 = true
                · rw [if_pos h6246] at H
                  refine EL.keep [0, 1, 5, 6, 7, 8, 51] [(0, .slice (some ad6227) l7.length C9), (1, .slice A11 l10.length C12), (5, .pointer (some ⟨g5169, 0, none⟩)), (6, .slice A6087 x6086.length C6088), (7, .int .i64 x6090), (8, .int .i32 t6229), (51, .bool (!(t6230)))] (by kernel_rfl) ?_
                  refine EL.as' [(0, .slice (some ad6227) l7.length C9), (1, .slice A11 l10.length C12), (5, .pointer (some ⟨g5169, 0, none⟩)), (6, .slice A6087 x6086.length C6088), (7, .int .i64 x6090), (8, .int .i32 t6229), (51, .bool (false))] (by simp only [h6246, Bool.not_true, Bool.not_false]) ?_
                  refine EL.quick 5 [0, 1, 5, 6, 7, 52, 53, 54, 55, 56] [(0, .slice (some ad6227) l7.length C9), (1, .slice A11 l10.length C12), (5, .pointer (some ⟨g5169, 0, none⟩)), (6, .slice A6087 x6086.length C6088), (7, .int .i64 x6090), (52, .int .i32 t6229), (53, .int .i64 (IntKind.i64.wrap t6229)), (54, .int .i64 x6090), (55, .bool (!(decide ((IntKind.i64.wrap t6229) = x6090)))), (56, .bool (!(decide ((IntKind.i64.wrap t6229) = x6090))))] (by kernel_rfl) ?_
                  refine EL.done (by kernel_rfl) ?_
                  refine EQ.to ?_
                  refine EQ.keep [0, 1, 5, 6, 7, 56] [(0, .slice (some ad6227) l7.length C9), (1, .slice A11 l10.length C12), (5, .pointer (some ⟨g5169, 0, none⟩)), (6, .slice A6087 x6086.length C6088), (7, .int .i64 x6090), (56, .bool (!(decide ((IntKind.i64.wrap t6229) = x6090))))] (by kernel_rfl) ?_
                  exact fun a ha => ⟨!(decide ((IntKind.i64.wrap t6229) = x6090)), ha, (hS.re [3, 3, 3, 3] [] rfl (sub_cons 0 rfl (sub_cons 0 rfl (sub_cons 2 rfl (sub_cons 3 rfl (sub_tail (sub_tail (sub_tail (sub_tail (sub_self)))))))))), H⟩
                · rw [if_neg h6246] at H
                  refine EL.keep [0, 1, 5, 6, 7, 8, 51] [(0, .slice (some ad6227) l7.length C9), (1, .slice A11 l10.length C12), (5, .pointer (some ⟨g5169, 0, none⟩)), (6, .slice A6087 x6086.length C6088), (7, .int .i64 x6090), (8, .int .i32 t6229), (51, .bool (!(t6230)))] (by kernel_rfl) ?_
                  refine EL.as' [(0, .slice (some ad6227) l7.length C9), (1, .slice A11 l10.length C12), (5, .pointer (some ⟨g5169, 0, none⟩)), (6, .slice A6087 x6086.length C6088), (7, .int .i64 x6090), (8, .int .i32 t6229), (51, .bool (true))] (by simp only [(Bool.eq_false_iff.2 h6246), Bool.not_true, Bool.not_false]) ?_
                  refine EL.quick 5 [0, 1, 5, 6, 7, 56] [(0, .slice (some ad6227) l7.length C9), (1, .slice A11 l10.length C12), (5, .pointer (some ⟨g5169, 0, none⟩)), (6, .slice A6087 x6086.length C6088), (7, .int .i64 x6090), (56, .bool (true))] (by kernel_rfl) ?_
                  refine EL.done (by kernel_rfl) ?_
                  refine EQ.to ?_
                  refine EQ.keep [0, 1, 5, 6, 7, 56] [(0, .slice (some ad6227) l7.length C9), (1, .slice A11 l10.length C12), (5, .pointer (some ⟨g5169, 0, none⟩)), (6, .slice A6087 x6086.length C6088), (7, .int .i64 x6090), (56, .bool (true))] (by kernel_rfl) ?_
                  exact fun a ha => ⟨true, ha, (hS.re [3, 3, 3, 3] [] rfl (sub_cons 0 rfl (sub_cons 0 rfl (sub_cons 2 rfl (sub_cons 3 rfl (sub_tail (sub_tail (sub_tail (sub_tail (sub_self)))))))))), H⟩
              · obtain ⟨x6244, ha, hS, H⟩ := hI
                rw [hj6245] at H
                (try dsimp only at H)
                refine EW.at ?_ a ha
                clear ha a
                refine EW.condP' (o := (.tmp 56)) (x := Cd11.r.r.r.r.r.l.r.l.l.r.l.l.r.l.r.l) (y := Cd11.r.r.r.r.r.l.r.l.l.r.l.l.r.l.r.r) (x6244) (by kernel_rfl) (by kernel_rfl) (fun h6247 => ?_) (fun h6247 => ?_)
                · rw [if_pos h6247] at H
                  refine EW.seq (x := Cd11.r.r.r.r.r.l.r.l.l.r.l.l.r.l.r.l.l) (y := Cd11.r.r.r.r.r.l.r.l.l.r.l.l.r.l.r.l.r) (by kernel_rfl) ?_
                  refine EW.region (id := 12) (ops := Cd11.r.r.r.r.r.l.r.l.l.r.l.l.r.l.r.l.l.ops) (by kernel_rfl) ?_
                  refine EL.quick 1 [4] [(4, .bool (false))] (by kernel_rfl) ?_
                  refine EL.done (by kernel_rfl) ?_
                  refine EQ.code ?_
                  refine EW.ret (by kernel_rfl) ?_
                  refine EQ.ret ?_
                  refine EQ.ret ?_
                  refine EQ.ret ?_
                  refine EQ.ret ?_
                  refine EQ.ret ?_
                  refine EQ.ret ?_
                  obtain rfl := Option.some.inj H
                  exact EQ.leave (.bool (false)) (by kernel_rfl) ⟨_, rfl, rfl, (hS.re [] [0, 0, 0, 0] rfl (sub_tail (sub_tail (sub_self))))⟩
                · rw [if_neg h6247] at H
                  refine EW.skip (by kernel_rfl) ?_
                  refine EQ.code ?_
                  refine EW.region (id := 13) (ops := Cd11.r.r.r.r.r.l.r.l.l.r.l.l.r.r.ops) (by kernel_rfl) ?_
                  refine EL.quick 3 [0, 1, 5, 7, 57, 58, 59] [(0, .slice (some ad6227) l7.length C9), (1, .slice A11 l10.length C12), (5, .pointer (some ⟨g5169, 0, none⟩)), (7, .int .i64 x6090), (57, .slice A6087 x6086.length C6088), (58, .slice (some ad6227) l7.length C9), (59, .int .i64 x6090)] (by kernel_rfl) ?_
                  refine EL.of (EO.Y (YO.idx 80 1 ad6227 l7.length C9 .i64 x6090 60 (by kernel_rfl) (by kernel_rfl) (by kernel_rfl) (by kernel_rfl) h6226 h6181) ?_)
                  refine EL.of (EO.Y (YO.loadEl hS (Kd.int .i32) ad6227 C9 l7 (Rd.ro 2 rfl) 0 (encI .i32) encI_of x6090 h6226 h6181 21 1 0 1 rfl (.int .i32 (l7.getD x6090.toNat 0)) 61 (by kernel_rfl) (by kernel_rfl) (by kernel_rfl) (by kernel_rfl)) ?_)
                  obtain ⟨l6249, hl6249, H⟩ := lt_out H
                  refine EL.of (EO.lit hS (Kd.int .i32) 21 80 1 #[(0, .int .i32 (l7.getD x6090.toNat 0))] [.int .i32 (l7.getD x6090.toNat 0)] l6249 62 (by kernel_rfl) (by kernel_rfl) (by kernel_rfl) (fun _ => (by kernel_rfl)) (by rw [hl6249]; rfl) (by kernel_rfl) (fun w G hr => (by rw [hl6249]; exact ⟨[.int .i32 (l7.getD x6090.toNat 0)], [], rfl, rfl, rfl⟩)) ?_)
                  intro g6248 w hS
                  obtain ⟨h6250, H⟩ := ite_in H
                  obtain ⟨l6251, hl6251, H⟩ := lt_out H
                  refine EL.of (EO.append hS 80 80 21 4 4 (Kd.int .i32) A6087 C6088 x6086 rfl (some ⟨g6248, 0, none⟩) 1 l6249 (Rd.own 0 21 rfl) l6251 hl6251 (fun A6252 C6253 => Ass.own 21 (Kd.int .i32) (some ⟨g6248, 0, none⟩) 1 l6249 :: Ass.box 95 g5169 [.slice A6231 t6228.length C6232, .slice A5172 t5168.length C5173] :: Ass.deep 76 69 kS69 A6231 C6232 t6228 :: Ass.own 3 (Kd.int .i64) A5172 C5173 t5168 :: Ass.own 21 (Kd.int .i32) A6252 C6253 l6251 :: os) 63 (by kernel_rfl) (by kernel_rfl) (by kernel_rfl) (by kernel_rfl) h6250 (fun _ _ => rfl) ?_)
                  intro A6252 C6253 w hS
                  refine EL.quick 1 [0, 1, 5, 6, 7] [(0, .slice (some ad6227) l7.length C9), (1, .slice A11 l10.length C12), (5, .pointer (some ⟨g5169, 0, none⟩)), (6, .slice A6252 l6251.length C6253), (7, .int .i64 x6090)] (by kernel_rfl) ?_
                  refine EL.done (by kernel_rfl) ?_
                  refine EQ.pop ?_
                  refine EQ.code ?_
                  refine EW.region (id := 9) (ops := Cd11.r.r.r.r.r.l.r.l.l.r.r.ops) (by kernel_rfl) ?_
                  refine EL.quick 3 [0, 1, 5, 6, 7] [(0, .slice (some ad6227) l7.length C9), (1, .slice A11 l10.length C12), (5, .pointer (some ⟨g5169, 0, none⟩)), (6, .slice A6252 l6251.length C6253), (7, .int .i64 (IntKind.i64.wrap (x6090 + 1)))] (by kernel_rfl) ?_
                  refine EL.done (by kernel_rfl) ?_
                  refine EQ.to ?_
                  refine EQ.keep [0, 1, 5, 6, 7] [(0, .slice (some ad6227) l7.length C9), (1, .slice A11 l10.length C12), (5, .pointer (some ⟨g5169, 0, none⟩)), (6, .slice A6252 l6251.length C6253), (7, .int .i64 (IntKind.i64.wrap (x6090 + 1)))] (by kernel_rfl) ?_
                  exact fun a ha => ⟨n, Nat.lt_succ_self n, t6228, l6251, IntKind.i64.wrap (x6090 + 1), A6231, C6232, A6252, C6253, ha, (hS.re [4, 4, 4, 4] [4] rfl (sub_cons 0 rfl (sub_cons 0 rfl (sub_cons 2 rfl (sub_cons 3 rfl (sub_tail (sub_tail (sub_tail (sub_tail (sub_self)))))))))), H⟩
            · rw [if_neg h6181] at H
              refine EW.exit (id := 0) (by kernel_rfl) ?_
              refine EQ.exitCode ?_
              refine EQ.exitTo ?_
              refine EQ.exitHere ?_
              refine EQ.to ?_
              refine EQ.keep [0, 1, 5, 6] [(0, .slice A8 l7.length C9), (1, .slice A11 l10.length C12), (5, .pointer (some ⟨g5169, 0, none⟩)), (6, .slice A6087 x6086.length C6088)] (by kernel_rfl) ?_
              exact fun a ha => ⟨x6083, x6086, A6084, C6085, A6087, C6088, ha, (hS.re [3, 3, 3, 3] [] rfl (sub_cons 0 rfl (sub_cons 0 rfl (sub_cons 2 rfl (sub_cons 3 rfl (sub_tail (sub_tail (sub_tail (sub_tail (sub_self)))))))))), H⟩
        · obtain ⟨x5891, x5894, A5892, C5893, A5895, C5896, ha, hS, H⟩ := hI
          rw [hj5899] at H
          (try dsimp only at H)
          refine EW.at ?_ a ha
          clear ha a
          obtain ⟨j6648, hj6648, H⟩ := lt_out H
          refine EW.cut (x := Cd11.r.r.r.r.r.r.l) (y := Cd11.r.r.r.r.r.r.r) (fun a w => ∃ x6642 : List (List S69), ∃ x6645 : List Int, ∃ A6643 : Option Addr, ∃ C6644 : Nat, ∃ A6646 : Option Addr, ∃ C6647 : Nat, Sat 139 [(0, .slice A8 l7.length C9), (5, .pointer (some ⟨g5169, 0, none⟩)), (6, .slice A6646 x6645.length C6647)] a ∧ St B w (Ass.box 95 g5169 [.slice A6643 x6642.length C6644, .slice A5172 t5168.length C5173] :: Ass.deep 76 69 kS69 A6643 C6644 x6642 :: Ass.own 3 (Kd.int .i64) A5172 C5173 t5168 :: Ass.own 21 (Kd.int .i32) A6646 C6647 x6645 :: os) (Ro.sl (Kd.int .i64) (some ⟨g5165, 0, none⟩) 1 l5166 :: Ro.sl (Kd.int .i64) (some ⟨g5165, 0, none⟩) 1 l5166 :: Ro.sl (Kd.int .i32) A8 C9 l7 :: Ro.sl (Kd.int .u8) A11 C12 l10 :: rs) ∧ j6648 x6642 x6645 = some x5124) (by kernel_rfl) ?_ (fun a w hI => ?_)
          · refine EW.seq (x := Cd11.r.r.r.r.r.r.l.l) (y := Cd11.r.r.r.r.r.r.l.r) (by kernel_rfl) ?_
            refine EW.region (id := 14) (ops := Cd11.r.r.r.r.r.r.l.l.ops) (by kernel_rfl) ?_
            refine EL.quick 1 [0, 1, 5, 6, 10] [(0, .slice A8 l7.length C9), (1, .slice A11 l10.length C12), (5, .pointer (some ⟨g5169, 0, none⟩)), (6, .slice A5895 x5894.length C5896), (10, .int .i64 0)] (by kernel_rfl) ?_
            refine EL.done (by kernel_rfl) ?_
            refine EQ.code ?_
            refine EW.block (x := Cd11.r.r.r.r.r.r.l.r.l) (id := 2) (by kernel_rfl) ?_
            refine EW.loop (x := Cd11.r.r.r.r.r.r.l.r.l.l) (fun n a w => ∃ x6715 : List (List S69), ∃ x6718 : List Int, ∃ x6721 : Int, ∃ A6716 : Option Addr, ∃ C6717 : Nat, ∃ A6719 : Option Addr, ∃ C6720 : Nat, Sat 139 [(0, .slice A8 l7.length C9), (1, .slice A11 l10.length C12), (5, .pointer (some ⟨g5169, 0, none⟩)), (6, .slice A6719 x6718.length C6720), (10, .int .i64 x6721)] a ∧ St B w (Ass.box 95 g5169 [.slice A6716 x6715.length C6717, .slice A5172 t5168.length C5173] :: Ass.deep 76 69 kS69 A6716 C6717 x6715 :: Ass.own 3 (Kd.int .i64) A5172 C5173 t5168 :: Ass.own 21 (Kd.int .i32) A6719 C6720 x6718 :: os) (Ro.sl (Kd.int .i64) (some ⟨g5165, 0, none⟩) 1 l5166 :: Ro.sl (Kd.int .i64) (some ⟨g5165, 0, none⟩) 1 l5166 :: Ro.sl (Kd.int .i32) A8 C9 l7 :: Ro.sl (Kd.int .u8) A11 C12 l10 :: rs) ∧ confidantlaw12_ArenaHolds.l1 K l10 l7 t5168 j6648 n x6715 x6718 x6721 = some x5124) K (by kernel_rfl) ?_ (fun n a w hI => ?_)
            · refine EQ.keep [0, 1, 5, 6, 10] [(0, .slice A8 l7.length C9), (1, .slice A11 l10.length C12), (5, .pointer (some ⟨g5169, 0, none⟩)), (6, .slice A5895 x5894.length C5896), (10, .int .i64 0)] (by kernel_rfl) ?_
              exact fun a ha => ⟨x5891, x5894, 0, A5892, C5893, A5895, C5896, ha, (hS.re [3, 3, 3, 3] [] rfl (sub_cons 0 rfl (sub_cons 0 rfl (sub_cons 2 rfl (sub_cons 3 rfl (sub_tail (sub_tail (sub_tail (sub_tail (sub_self)))))))))), H⟩
            · obtain ⟨x6715, x6718, x6721, A6716, C6717, A6719, C6720, ha, hS, H⟩ := hI
              obtain _ | n := n
              · simp [confidantlaw12_ArenaHolds.l1] at H
              rw [confidantlaw12_ArenaHolds.l1.eq_2] at H
              refine EW.at ?_ a ha
              clear ha a
              refine EW.seq (x := Cd11.r.r.r.r.r.r.l.r.l.l.l) (y := Cd11.r.r.r.r.r.r.l.r.l.l.r) (by kernel_rfl) ?_
              refine EW.seq (x := Cd11.r.r.r.r.r.r.l.r.l.l.l.l) (y := Cd11.r.r.r.r.r.r.l.r.l.l.l.r) (by kernel_rfl) ?_
              refine EW.region (id := 15) (ops := Cd11.r.r.r.r.r.r.l.r.l.l.l.l.ops) (by kernel_rfl) ?_
              refine EL.quick 4 [0, 1, 5, 6, 10, 67] [(0, .slice A8 l7.length C9), (1, .slice A11 l10.length C12), (5, .pointer (some ⟨g5169, 0, none⟩)), (6, .slice A6719 x6718.length C6720), (10, .int .i64 x6721), (67, .bool (decide (x6721 < (l10.length : Int))))] (by kernel_rfl) ?_
              refine EL.done (by kernel_rfl) ?_
              refine EQ.code ?_
              refine EW.condP (o := (.tmp 67)) (x := Cd11.r.r.r.r.r.r.l.r.l.l.l.r.l) (y := Cd11.r.r.r.r.r.r.l.r.l.l.l.r.r) (x6721 < (l10.length : Int)) (by kernel_rfl) (by kernel_rfl) (fun h6789 => ?_) (fun h6789 => ?_)
              · rw [if_pos h6789] at H
                refine EW.skip (by kernel_rfl) ?_
                refine EQ.code ?_
                refine EW.seq (x := Cd11.r.r.r.r.r.r.l.r.l.l.r.l) (y := Cd11.r.r.r.r.r.r.l.r.l.l.r.r) (by kernel_rfl) ?_
                refine EW.block (x := Cd11.r.r.r.r.r.r.l.r.l.l.r.l.l) (id := 3) (by kernel_rfl) ?_
                refine EW.seq (x := Cd11.r.r.r.r.r.r.l.r.l.l.r.l.l.l) (y := Cd11.r.r.r.r.r.r.l.r.l.l.r.l.l.r) (by kernel_rfl) ?_
                refine EW.region (id := 17) (ops := Cd11.r.r.r.r.r.r.l.r.l.l.r.l.l.l.ops) (by kernel_rfl) ?_
                refine EL.quick 2 [0, 1, 5, 6, 10, 70, 71] [(0, .slice A8 l7.length C9), (1, .slice A11 l10.length C12), (5, .pointer (some ⟨g5169, 0, none⟩)), (6, .slice A6719 x6718.length C6720), (10, .int .i64 x6721), (70, .slice A11 l10.length C12), (71, .int .i64 x6721)] (by kernel_rfl) ?_
                obtain ⟨h6818, H⟩ := ite_in H
                obtain ⟨ad6819, rfl⟩ := St.rd_some hS (Rd.ro 3 rfl) h6818 h6789
                refine EL.of (EO.Y (YO.idx 22 1 ad6819 l10.length C12 .i64 x6721 72 (by kernel_rfl) (by kernel_rfl) (by kernel_rfl) (by kernel_rfl) h6818 h6789) ?_)
                refine EL.of (EO.Y (YO.loadEl hS (Kd.int .u8) ad6819 C12 l10 (Rd.ro 3 rfl) 0 (encI .u8) encI_of x6721 h6818 h6789 5 1 0 1 rfl (.int .u8 (l10.getD x6721.toNat 0)) 73 (by kernel_rfl) (by kernel_rfl) (by kernel_rfl) (by kernel_rfl)) ?_)
                refine EL.quick 3 [0, 1, 5, 6, 10, 74, 76] [(0, .slice A8 l7.length C9), (1, .slice (some ad6819) l10.length C12), (5, .pointer (some ⟨g5169, 0, none⟩)), (6, .slice A6719 x6718.length C6720), (10, .int .i64 x6721), (74, .int .i64 (IntKind.i64.wrap (l10.getD x6721.toNat 0))), (76, .int .i64 (l7.length : Int))] (by kernel_rfl) ?_
                obtain ⟨h6820, H⟩ := ite_out H
                refine EL.of (EO.Y (YO.div .rem .i64 (IntKind.i64.wrap (l10.getD x6721.toNat 0)) (l7.length : Int) (Int.tmod (IntKind.i64.wrap (l10.getD x6721.toNat 0)) (l7.length : Int)) 77 (by kernel_rfl) (by kernel_rfl) (by kernel_rfl) h6820 (by first | exact .inl ⟨rfl, rfl⟩ | exact .inr ⟨rfl, rfl⟩)) ?_)
                refine EL.quick 1 [0, 1, 5, 6, 10, 11] [(0, .slice A8 l7.length C9), (1, .slice (some ad6819) l10.length C12), (5, .pointer (some ⟨g5169, 0, none⟩)), (6, .slice A6719 x6718.length C6720), (10, .int .i64 x6721), (11, .int .i64 (Int.tmod (IntKind.i64.wrap (l10.getD x6721.toNat 0)) (l7.length : Int)))] (by kernel_rfl) ?_
                refine EL.done (by kernel_rfl) ?_
                refine EQ.code ?_
                refine EW.seq (x := Cd11.r.r.r.r.r.r.l.r.l.l.r.l.l.r.l) (y := Cd11.r.r.r.r.r.r.l.r.l.l.r.l.l.r.r) (by kernel_rfl) ?_
                refine EW.region (id := 18) (ops := Cd11.r.r.r.r.r.r.l.r.l.l.r.l.l.r.l.ops) (by kernel_rfl) ?_
                refine EL.quick 4 [0, 1, 5, 6, 10, 11, 78, 79, 81] [(0, .slice A8 l7.length C9), (1, .slice (some ad6819) l10.length C12), (5, .pointer (some ⟨g5169, 0, none⟩)), (6, .slice A6719 x6718.length C6720), (10, .int .i64 x6721), (11, .int .i64 (Int.tmod (IntKind.i64.wrap (l10.getD x6721.toNat 0)) (l7.length : Int))), (78, .slice A6719 x6718.length C6720), (79, .int .i64 (Int.tmod (IntKind.i64.wrap (l10.getD x6721.toNat 0)) (l7.length : Int))), (81, .int .i32 (IntKind.i32.wrap x6721))] (by kernel_rfl) ?_
                obtain ⟨h6825, H⟩ := ite_in H
                obtain ⟨h6826, H⟩ := ite_in H
                obtain ⟨ad6827, rfl⟩ := St.rd_some hS (Rd.own 3 21 rfl) h6825 h6826
                refine EL.of (EO.Y (YO.idx 80 1 ad6827 x6718.length C6720 .i64 (Int.tmod (IntKind.i64.wrap (l10.getD x6721.toNat 0)) (l7.length : Int)) 82 (by kernel_rfl) (by kernel_rfl) (by kernel_rfl) (by kernel_rfl) h6825 h6826) ?_)
                obtain ⟨l6828, hl6828, H⟩ := lt_out H
                refine EL.of (EO.storeEl hS 3 (Kd.int .i32) 21 ad6827 C6720 x6718 rfl (Int.tmod (IntKind.i64.wrap (l10.getD x6721.toNat 0)) (l7.length : Int)) h6825 h6826 0 21 1 0 rfl (.int .i32 (IntKind.i32.wrap x6721)) (IntKind.i32.wrap x6721) l6828 hl6828 (Ass.box 95 g5169 [.slice A6716 x6715.length C6717, .slice A5172 t5168.length C5173] :: Ass.deep 76 69 kS69 A6716 C6717 x6715 :: Ass.own 3 (Kd.int .i64) A5172 C5173 t5168 :: Ass.own 21 (Kd.int .i32) (some ad6827) C6720 l6828 :: os) (by kernel_rfl) (by kernel_rfl) (by kernel_rfl) (by kernel_rfl) (by kernel_rfl) (by kernel_rfl) (fun w G vs hr h => set_whole h (by kernel_rfl) rfl) rfl ?_)
                intro w hS
                refine EL.keep [0, 1, 5, 6, 10, 11] [(0, .slice A8 l7.length C9), (1, .slice (some ad6819) l10.length C12), (5, .pointer (some ⟨g5169, 0, none⟩)), (6, .slice (some ad6827) x6718.length C6720), (10, .int .i64 x6721), (11, .int .i64 (Int.tmod (IntKind.i64.wrap (l10.getD x6721.toNat 0)) (l7.length : Int)))] (by kernel_rfl) ?_
                refine EL.as' [(0, .slice A8 l7.length C9), (1, .slice (some ad6819) l10.length C12), (5, .pointer (some ⟨g5169, 0, none⟩)), (6, .slice (some ad6827) l6828.length C6720), (10, .int .i64 x6721), (11, .int .i64 (Int.tmod (IntKind.i64.wrap (l10.getD x6721.toNat 0)) (l7.length : Int)))] (by simp only [hl6828, List.length_set]) ?_
                refine EL.done (by kernel_rfl) ?_
                refine EQ.code ?_
                refine EW.seq (x := Cd11.r.r.r.r.r.r.l.r.l.l.r.l.l.r.r.l) (y := Cd11.r.r.r.r.r.r.l.r.l.l.r.l.l.r.r.r) (by kernel_rfl) ?_
                refine EW.region (id := 19) (ops := Cd11.r.r.r.r.r.r.l.r.l.l.r.l.l.r.r.l.ops) (by kernel_rfl) ?_
                refine EL.quick 5 [0, 1, 5, 6, 10, 83, 85, 87] [(0, .slice A8 l7.length C9), (1, .slice (some ad6819) l10.length C12), (5, .pointer (some ⟨g5169, 0, none⟩)), (6, .slice (some ad6827) l6828.length C6720), (10, .int .i64 x6721), (83, .pointer (some ⟨g5169, 0, none⟩)), (85, .int .i32 (IntKind.i32.wrap (Int.tmod (IntKind.i64.wrap (l10.getD x6721.toNat 0)) (l7.length : Int)))), (87, .int .i32 (IntKind.i32.wrap x6721))] (by kernel_rfl) ?_
                obtain ⟨t6834, t6835, hc6838, H⟩ := b2_out H
                refine EL.of (EO.callD 40 [.pointer (some ⟨g5169, 0, none⟩), .int .i32 (IntKind.i32.wrap (Int.tmod (IntKind.i64.wrap (l10.getD x6721.toNat 0)) (l7.length : Int))), .int .i32 (IntKind.i32.wrap x6721)] _ 88 (by kernel_rfl) (by kernel_rfl) (by kernel_rfl) (arena_Arena_Set.calls hc6838 hS) ?_)
                rintro v w ⟨A6836, C6837, rfl, hS⟩
                refine EL.quick 1 [0, 1, 5, 6, 10, 89] [(0, .slice A8 l7.length C9), (1, .slice (some ad6819) l10.length C12), (5, .pointer (some ⟨g5169, 0, none⟩)), (6, .slice (some ad6827) l6828.length C6720), (10, .int .i64 x6721), (89, .bool (!(t6835)))] (by kernel_rfl) ?_
                refine EL.done (by kernel_rfl) ?_
                refine EQ.code ?_
                refine EW.condQ (b := !(t6835)) (o := (.tmp 89)) (x := Cd11.r.r.r.r.r.r.l.r.l.l.r.l.l.r.r.r.l) (y := Cd11.r.r.r.r.r.r.l.r.l.l.r.l.l.r.r.r.r) (t6835 = true) (false) (by kernel_rfl) (by kernel_rfl) ⟨fun h => (by rw [h] <;> rfl), fun h => (by rw [Bool.eq_false_iff.2 h] <;> rfl)⟩ (fun h6839 => ?_) (fun h6839 => ?_)
                · rw [if_pos h6839] at H
                  refine EW.skip (by kernel_rfl) ?_
                  refine EQ.pop ?_
                  refine EQ.code ?_
                  refine EW.region (id := 16) (ops := Cd11.r.r.r.r.r.r.l.r.l.l.r.r.ops) (by kernel_rfl) ?_
                  refine EL.quick 3 [0, 1, 5, 6, 10] [(0, .slice A8 l7.length C9), (1, .slice (some ad6819) l10.length C12), (5, .pointer (some ⟨g5169, 0, none⟩)), (6, .slice (some ad6827) l6828.length C6720), (10, .int .i64 (IntKind.i64.wrap (x6721 + 1)))] (by kernel_rfl) ?_
                  refine EL.done (by kernel_rfl) ?_
                  refine EQ.to ?_
                  refine EQ.keep [0, 1, 5, 6, 10] [(0, .slice A8 l7.length C9), (1, .slice (some ad6819) l10.length C12), (5, .pointer (some ⟨g5169, 0, none⟩)), (6, .slice (some ad6827) l6828.length C6720), (10, .int .i64 (IntKind.i64.wrap (x6721 + 1)))] (by kernel_rfl) ?_
                  exact fun a ha => ⟨n, Nat.lt_succ_self n, t6834, l6828, IntKind.i64.wrap (x6721 + 1), A6836, C6837, (some ad6827), C6720, ha, (hS.re [3, 3, 3, 3] [] rfl (sub_cons 0 rfl (sub_cons 0 rfl (sub_cons 2 rfl (sub_cons 3 rfl (sub_tail (sub_tail (sub_tail (sub_tail (sub_self)))))))))), H⟩
                · rw [if_neg h6839] at H
                  refine EW.seq (x := Cd11.r.r.r.r.r.r.l.r.l.l.r.l.l.r.r.r.l.l) (y := Cd11.r.r.r.r.r.r.l.r.l.l.r.l.l.r.r.r.l.r) (by kernel_rfl) ?_
                  refine EW.region (id := 20) (ops := Cd11.r.r.r.r.r.r.l.r.l.l.r.l.l.r.r.r.l.l.ops) (by kernel_rfl) ?_
                  refine EL.quick 1 [4] [(4, .bool (false))] (by kernel_rfl) ?_
                  refine EL.done (by kernel_rfl) ?_
                  refine EQ.code ?_
                  refine EW.ret (by kernel_rfl) ?_
                  refine EQ.ret ?_
                  refine EQ.ret ?_
                  refine EQ.ret ?_
                  refine EQ.ret ?_
                  refine EQ.ret ?_
                  obtain rfl := Option.some.inj H
                  exact EQ.leave (.bool (false)) (by kernel_rfl) ⟨_, rfl, rfl, (hS.re [] [0, 0, 0, 0] rfl (sub_tail (sub_tail (sub_self))))⟩
              · rw [if_neg h6789] at H
                refine EW.exit (id := 2) (by kernel_rfl) ?_
                refine EQ.exitCode ?_
                refine EQ.exitTo ?_
                refine EQ.exitHere ?_
                refine EQ.to ?_
                refine EQ.keep [0, 5, 6] [(0, .slice A8 l7.length C9), (5, .pointer (some ⟨g5169, 0, none⟩)), (6, .slice A6719 x6718.length C6720)] (by kernel_rfl) ?_
                exact fun a ha => ⟨x6715, x6718, A6716, C6717, A6719, C6720, ha, (hS.re [3, 3, 3, 3] [] rfl (sub_cons 0 rfl (sub_cons 0 rfl (sub_cons 2 rfl (sub_cons 3 rfl (sub_tail (sub_tail (sub_tail (sub_tail (sub_self)))))))))), H⟩
          · obtain ⟨x6642, x6645, A6643, C6644, A6646, C6647, ha, hS, H⟩ := hI
            rw [hj6648] at H
            (try dsimp only at H)
            refine EW.at ?_ a ha
            clear ha a
            obtain ⟨j7198, hj7198, H⟩ := lt_out H
            refine EW.cut (x := Cd11.r.r.r.r.r.r.r.l) (y := Cd11.r.r.r.r.r.r.r.r) (fun a w => Sat 139 [(0, .slice A8 l7.length C9), (5, .pointer (some ⟨g5169, 0, none⟩))] a ∧ St B w (Ass.box 95 g5169 [.slice A6643 x6642.length C6644, .slice A5172 t5168.length C5173] :: Ass.deep 76 69 kS69 A6643 C6644 x6642 :: Ass.own 3 (Kd.int .i64) A5172 C5173 t5168 :: Ass.own 21 (Kd.int .i32) A6646 C6647 x6645 :: os) (Ro.sl (Kd.int .i64) (some ⟨g5165, 0, none⟩) 1 l5166 :: Ro.sl (Kd.int .i64) (some ⟨g5165, 0, none⟩) 1 l5166 :: Ro.sl (Kd.int .i32) A8 C9 l7 :: Ro.sl (Kd.int .u8) A11 C12 l10 :: rs) ∧ j7198 = some x5124) (by kernel_rfl) ?_ (fun a w hI => ?_)
            · refine EW.seq (x := Cd11.r.r.r.r.r.r.r.l.l) (y := Cd11.r.r.r.r.r.r.r.l.r) (by kernel_rfl) ?_
              refine EW.region (id := 21) (ops := Cd11.r.r.r.r.r.r.r.l.l.ops) (by kernel_rfl) ?_
              refine EL.quick 1 [0, 5, 6, 12] [(0, .slice A8 l7.length C9), (5, .pointer (some ⟨g5169, 0, none⟩)), (6, .slice A6646 x6645.length C6647), (12, .int .i64 0)] (by kernel_rfl) ?_
              refine EL.done (by kernel_rfl) ?_
              refine EQ.code ?_
              refine EW.block (x := Cd11.r.r.r.r.r.r.r.l.r.l) (id := 4) (by kernel_rfl) ?_
              refine EW.loop (x := Cd11.r.r.r.r.r.r.r.l.r.l.l) (fun n a w => ∃ x7255 : Int, Sat 139 [(0, .slice A8 l7.length C9), (5, .pointer (some ⟨g5169, 0, none⟩)), (6, .slice A6646 x6645.length C6647), (12, .int .i64 x7255)] a ∧ St B w (Ass.box 95 g5169 [.slice A6643 x6642.length C6644, .slice A5172 t5168.length C5173] :: Ass.deep 76 69 kS69 A6643 C6644 x6642 :: Ass.own 3 (Kd.int .i64) A5172 C5173 t5168 :: Ass.own 21 (Kd.int .i32) A6646 C6647 x6645 :: os) (Ro.sl (Kd.int .i64) (some ⟨g5165, 0, none⟩) 1 l5166 :: Ro.sl (Kd.int .i64) (some ⟨g5165, 0, none⟩) 1 l5166 :: Ro.sl (Kd.int .i32) A8 C9 l7 :: Ro.sl (Kd.int .u8) A11 C12 l10 :: rs) ∧ confidantlaw12_ArenaHolds.l2 K l7 x6642 t5168 x6645 j7198 n x7255 = some x5124) K (by kernel_rfl) ?_ (fun n a w hI => ?_)
              · refine EQ.keep [0, 5, 6, 12] [(0, .slice A8 l7.length C9), (5, .pointer (some ⟨g5169, 0, none⟩)), (6, .slice A6646 x6645.length C6647), (12, .int .i64 0)] (by kernel_rfl) ?_
                exact fun a ha => ⟨0, ha, (hS.re [3, 3, 3, 3] [] rfl (sub_cons 0 rfl (sub_cons 0 rfl (sub_cons 2 rfl (sub_cons 3 rfl (sub_tail (sub_tail (sub_tail (sub_tail (sub_self)))))))))), H⟩
              · obtain ⟨x7255, ha, hS, H⟩ := hI
                obtain _ | n := n
                · simp [confidantlaw12_ArenaHolds.l2] at H
                rw [confidantlaw12_ArenaHolds.l2.eq_2] at H
                refine EW.at ?_ a ha
                clear ha a
                refine EW.seq (x := Cd11.r.r.r.r.r.r.r.l.r.l.l.l) (y := Cd11.r.r.r.r.r.r.r.l.r.l.l.r) (by kernel_rfl) ?_
                refine EW.seq (x := Cd11.r.r.r.r.r.r.r.l.r.l.l.l.l) (y := Cd11.r.r.r.r.r.r.r.l.r.l.l.l.r) (by kernel_rfl) ?_
                refine EW.region (id := 22) (ops := Cd11.r.r.r.r.r.r.r.l.r.l.l.l.l.ops) (by kernel_rfl) ?_
                refine EL.quick 4 [0, 5, 6, 12, 93] [(0, .slice A8 l7.length C9), (5, .pointer (some ⟨g5169, 0, none⟩)), (6, .slice A6646 x6645.length C6647), (12, .int .i64 x7255), (93, .bool (decide (x7255 < (l7.length : Int))))] (by kernel_rfl) ?_
                refine EL.done (by kernel_rfl) ?_
                refine EQ.code ?_
                refine EW.condP (o := (.tmp 93)) (x := Cd11.r.r.r.r.r.r.r.l.r.l.l.l.r.l) (y := Cd11.r.r.r.r.r.r.r.l.r.l.l.l.r.r) (x7255 < (l7.length : Int)) (by kernel_rfl) (by kernel_rfl) (fun h7319 => ?_) (fun h7319 => ?_)
                · rw [if_pos h7319] at H
                  refine EW.skip (by kernel_rfl) ?_
                  refine EQ.code ?_
                  refine EW.seq (x := Cd11.r.r.r.r.r.r.r.l.r.l.l.r.l) (y := Cd11.r.r.r.r.r.r.r.l.r.l.l.r.r) (by kernel_rfl) ?_
                  refine EW.block (x := Cd11.r.r.r.r.r.r.r.l.r.l.l.r.l.l) (id := 5) (by kernel_rfl) ?_
                  refine EW.seq (x := Cd11.r.r.r.r.r.r.r.l.r.l.l.r.l.l.l) (y := Cd11.r.r.r.r.r.r.r.l.r.l.l.r.l.l.r) (by kernel_rfl) ?_
                  refine EW.region (id := 24) (ops := Cd11.r.r.r.r.r.r.r.l.r.l.l.r.l.l.l.ops) (by kernel_rfl) ?_
                  refine EL.quick 3 [0, 5, 6, 12, 97, 99] [(0, .slice A8 l7.length C9), (5, .pointer (some ⟨g5169, 0, none⟩)), (6, .slice A6646 x6645.length C6647), (12, .int .i64 x7255), (97, .pointer (some ⟨g5169, 0, none⟩)), (99, .int .i32 (IntKind.i32.wrap x7255))] (by kernel_rfl) ?_
                  obtain ⟨t7354, t7355, t7356, hc7357, H⟩ := b3_out H
                  refine EL.of (EO.callD 38 [.pointer (some ⟨g5169, 0, none⟩), .int .i32 (IntKind.i32.wrap x7255)] _ 100 (by kernel_rfl) (by kernel_rfl) (by kernel_rfl) (arena_Arena_Get.calls hc7357 hS) ?_)
                  rintro v w ⟨rfl, hS⟩
                  refine EL.quick 3 [0, 5, 6, 12, 101, 102] [(0, .slice A8 l7.length C9), (5, .pointer (some ⟨g5169, 0, none⟩)), (6, .slice A6646 x6645.length C6647), (12, .int .i64 x7255), (101, .agg #[.int .i64 t7354, .int .i32 t7355]), (102, .bool (t7356))] (by kernel_rfl) ?_
                  refine EL.of (EO.alloc hS 69 (.agg #[.int .i64 0, .int .i32 0]) [.int .i64 0, .int .i32 0] 13 (by kernel_rfl) (by kernel_rfl) (by kernel_rfl) (by kernel_rfl) (by first | rfl | kernel_rfl) ?_)
                  intro g7358 w hS
                  refine EL.of (EO.storeBox (os' := Ass.box 69 g7358 [.int .i64 t7354, .int .i32 t7355] :: Ass.box 95 g5169 [.slice A6643 x6642.length C6644, .slice A5172 t5168.length C5173] :: Ass.deep 76 69 kS69 A6643 C6644 x6642 :: Ass.own 3 (Kd.int .i64) A5172 C5173 t5168 :: Ass.own 21 (Kd.int .i32) A6646 C6647 x6645 :: os) hS 0 rfl 69 0 (.agg #[.int .i64 t7354, .int .i32 t7355]) [.int .i64 t7354, .int .i32 t7355] (by kernel_rfl) (by kernel_rfl) (by kernel_rfl) (by kernel_rfl) (by kernel_rfl) (by kernel_rfl) rfl rfl ?_)
                  intro w hS
                  refine EL.quick 1 [0, 5, 6, 12, 13, 14] [(0, .slice A8 l7.length C9), (5, .pointer (some ⟨g5169, 0, none⟩)), (6, .slice A6646 x6645.length C6647), (12, .int .i64 x7255), (13, .pointer (some ⟨g7358, 0, none⟩)), (14, .bool (t7356))] (by kernel_rfl) ?_
                  refine EL.done (by kernel_rfl) ?_
                  refine EQ.code ?_
                  obtain ⟨j7371, hj7371, H⟩ := lt_out H
                  refine EW.cut (x := Cd11.r.r.r.r.r.r.r.l.r.l.l.r.l.l.r.l) (y := Cd11.r.r.r.r.r.r.r.l.r.l.l.r.l.l.r.r) (fun a w => ∃ x7370 : Bool, Sat 139 [(0, .slice A8 l7.length C9), (5, .pointer (some ⟨g5169, 0, none⟩)), (6, .slice A6646 x6645.length C6647), (12, .int .i64 x7255), (120, .bool (x7370))] a ∧ St B w (Ass.box 69 g7358 [.int .i64 t7354, .int .i32 t7355] :: Ass.box 95 g5169 [.slice A6643 x6642.length C6644, .slice A5172 t5168.length C5173] :: Ass.deep 76 69 kS69 A6643 C6644 x6642 :: Ass.own 3 (Kd.int .i64) A5172 C5173 t5168 :: Ass.own 21 (Kd.int .i32) A6646 C6647 x6645 :: os) (Ro.sl (Kd.int .i64) (some ⟨g5165, 0, none⟩) 1 l5166 :: Ro.sl (Kd.int .i64) (some ⟨g5165, 0, none⟩) 1 l5166 :: Ro.sl (Kd.int .i32) A8 C9 l7 :: Ro.sl (Kd.int .u8) A11 C12 l10 :: rs) ∧ j7371 x7370 = some x5124) (by kernel_rfl) ?_ (fun a w hI => ?_)
                  · by_cases h7372 : t7356 = true
                    · rw [if_pos h7372] at H
                      obtain ⟨h7373, H⟩ := ite_in H
                      obtain ⟨h7374, H⟩ := ite_in H
                      obtain ⟨ad7375, rfl⟩ := St.rd_some hS (Rd.own 4 21 rfl) h7373 h7374
                      by_cases h7376 : t7355 = (x6645.getD x7255.toNat 0)
                      · rw [if_pos h7376] at H
                        have hS := hS.drew
                        refine EW.draw (B := B) (id := 25) (ops := Cd11.r.r.r.r.r.r.r.l.r.l.l.r.l.l.r.l.ops) [Ass.box 69 g7358 [.int .i64 t7354, .int .i32 t7355], Ass.box 95 g5169 [.slice A6643 x6642.length C6644, .slice A5172 t5168.length C5173], Ass.deep 76 69 kS69 A6643 C6644 x6642, Ass.own 3 (Kd.int .i64) A5172 C5173 t5168, Ass.own 21 (Kd.int .i32) (some ad7375) C6647 x6645] [Ro.sl (Kd.int .i64) (some ⟨g5165, 0, none⟩) 1 l5166, Ro.sl (Kd.int .i64) (some ⟨g5165, 0, none⟩) 1 l5166, Ro.sl (Kd.int .i32) A8 C9 l7, Ro.sl (Kd.int .u8) A11 C12 l10] (by kernel_rfl) (by kernel_rfl) ?_
                        have hN : Region.noSelect Cd11.r.r.r.r.r.r.r.l.r.l.l.r.l.l.r.l.ops = true := (by kernel_rfl)
                        have hF : freeAll Cd11.r.r.r.r.r.r.r.l.r.l.l.r.l.l.r.l.ops = true := (by kernel_rfl)
                        have hC : Core B [Ass.box 69 g7358 [.int .i64 t7354, .int .i32 t7355], Ass.box 95 g5169 [.slice A6643 x6642.length C6644, .slice A5172 t5168.length C5173], Ass.deep 76 69 kS69 A6643 C6644 x6642, Ass.own 3 (Kd.int .i64) A5172 C5173 t5168, Ass.own 21 (Kd.int .i32) (some ad7375) C6647 x6645] [Ro.sl (Kd.int .i64) (some ⟨g5165, 0, none⟩) 1 l5166, Ro.sl (Kd.int .i64) (some ⟨g5165, 0, none⟩) 1 l5166, Ro.sl (Kd.int .i32) A8 C9 l7, Ro.sl (Kd.int .u8) A11 C12 l10] _ := ⟨_, _, hS⟩
                        refine ED.quick hN hF hC [0, 1, 2] [0, 5, 6, 12, 13, 105] 15 [(0, .slice A8 l7.length C9), (5, .pointer (some ⟨g5169, 0, none⟩)), (6, .slice (some ad7375) x6645.length C6647), (12, .int .i64 x7255), (13, .pointer (some ⟨g7358, 0, none⟩)), (105, .bool (!(t7356)))] #[true, true, true, false, false, false, false, false, false, false, false, false, false, false, false, false, false, false] (by kernel_rfl) (by kernel_rfl) ?_
                        refine ED.keep [0, 5, 6, 12, 13, 105] [(0, .slice A8 l7.length C9), (5, .pointer (some ⟨g5169, 0, none⟩)), (6, .slice (some ad7375) x6645.length C6647), (12, .int .i64 x7255), (13, .pointer (some ⟨g7358, 0, none⟩)), (105, .bool (!(t7356)))] (by kernel_rfl) ?_
                        refine ED.as' [(0, .slice A8 l7.length C9), (5, .pointer (some ⟨g5169, 0, none⟩)), (6, .slice (some ad7375) x6645.length C6647), (12, .int .i64 x7255), (13, .pointer (some ⟨g7358, 0, none⟩)), (105, .bool (false))] (by simp only [h7372, Bool.not_true, Bool.not_false]) ?_
                        refine ED.quick hN hF hC [3, 5, 6] [0, 5, 6, 12, 13, 105, 106, 108, 109] 12 [(0, .slice A8 l7.length C9), (5, .pointer (some ⟨g5169, 0, none⟩)), (6, .slice (some ad7375) x6645.length C6647), (12, .int .i64 x7255), (13, .pointer (some ⟨g7358, 0, none⟩)), (105, .bool (false)), (106, .pointer (some ⟨g7358, 1, none⟩)), (108, .slice (some ad7375) x6645.length C6647), (109, .int .i64 x7255)] #[true, true, true, true, false, true, true, false, false, false, false, false, false, false, false, false, false, false] (by kernel_rfl) (by kernel_rfl) ?_
                        refine ED.Y hN hF hC 4 11 #[true, true, true, true, true, true, true, false, false, false, false, false, false, false, false, false, false, false] (by kernel_rfl) (by kernel_rfl) rfl (fun _ _ _ hS => YO.loadBox hS 0 rfl 21 1 1 (.int .i32 t7355) 107 (by kernel_rfl) (by kernel_rfl) (by kernel_rfl) (by kernel_rfl)) ?_
                        refine ED.Y hN hF hC 7 10 #[true, true, true, true, true, true, true, true, false, false, false, false, false, false, false, false, false, false] (by kernel_rfl) (by kernel_rfl) rfl (fun _ _ _ hS => YO.idx 80 1 ad7375 x6645.length C6647 .i64 x7255 110 (by kernel_rfl) (by kernel_rfl) (by kernel_rfl) (by kernel_rfl) h7373 h7374) ?_
                        refine ED.Y hN hF hC 8 9 #[true, true, true, true, true, true, true, true, true, false, false, false, false, false, false, false, false, false] (by kernel_rfl) (by kernel_rfl) rfl (fun _ _ _ hS => YO.loadEl hS (Kd.int .i32) ad7375 C6647 x6645 (Rd.own 4 21 rfl) 0 (encI .i32) encI_of x7255 h7373 h7374 21 1 0 1 rfl (.int .i32 (x6645.getD x7255.toNat 0)) 111 (by kernel_rfl) (by kernel_rfl) (by kernel_rfl) (by kernel_rfl)) ?_
                        refine ED.quick hN hF hC [9, 10, 11] [0, 5, 6, 12, 13, 106, 107, 108, 109, 110, 111, 112, 114] 6 [(0, .slice A8 l7.length C9), (5, .pointer (some ⟨g5169, 0, none⟩)), (6, .slice (some ad7375) x6645.length C6647), (12, .int .i64 x7255), (13, .pointer (some ⟨g7358, 0, none⟩)), (106, .pointer (some ⟨g7358, 1, none⟩)), (107, .int .i32 t7355), (108, .slice (some ad7375) x6645.length C6647), (109, .int .i64 x7255), (110, .pointer (some ((ad7375.add (x7255.toNat * 1)).add 0))), (111, .int .i32 (x6645.getD x7255.toNat 0)), (112, .bool (!(decide (t7355 = (x6645.getD x7255.toNat 0))))), (114, .bool (!(decide (t7355 = (x6645.getD x7255.toNat 0)))))] #[true, true, true, true, true, true, true, true, true, true, true, true, false, false, false, false, false, false] (by kernel_rfl) (by kernel_rfl) ?_
                        refine ED.keep [0, 5, 6, 12, 13, 106, 107, 108, 109, 110, 111, 112, 114] [(0, .slice A8 l7.length C9), (5, .pointer (some ⟨g5169, 0, none⟩)), (6, .slice (some ad7375) x6645.length C6647), (12, .int .i64 x7255), (13, .pointer (some ⟨g7358, 0, none⟩)), (106, .pointer (some ⟨g7358, 1, none⟩)), (107, .int .i32 t7355), (108, .slice (some ad7375) x6645.length C6647), (109, .int .i64 x7255), (110, .pointer (some ((ad7375.add (x7255.toNat * 1)).add 0))), (111, .int .i32 (x6645.getD x7255.toNat 0)), (112, .bool (!(decide (t7355 = (x6645.getD x7255.toNat 0))))), (114, .bool (!(decide (t7355 = (x6645.getD x7255.toNat 0)))))] (by kernel_rfl) ?_
                        refine ED.as' [(0, .slice A8 l7.length C9), (5, .pointer (some ⟨g5169, 0, none⟩)), (6, .slice (some ad7375) x6645.length C6647), (12, .int .i64 x7255), (13, .pointer (some ⟨g7358, 0, none⟩)), (106, .pointer (some ⟨g7358, 1, none⟩)), (107, .int .i32 t7355), (108, .slice (some ad7375) x6645.length C6647), (109, .int .i64 x7255), (110, .pointer (some ((ad7375.add (x7255.toNat * 1)).add 0))), (111, .int .i32 (x6645.getD x7255.toNat 0)), (112, .bool (false)), (114, .bool (false))] (by simp only [dec_t h7376, Bool.not_true, Bool.not_false]) ?_
                        refine ED.quick hN hF hC [12, 14, 15] [0, 5, 6, 12, 106, 107, 108, 109, 110, 111, 112, 114, 115, 117, 118] 3 [(0, .slice A8 l7.length C9), (5, .pointer (some ⟨g5169, 0, none⟩)), (6, .slice (some ad7375) x6645.length C6647), (12, .int .i64 x7255), (106, .pointer (some ⟨g7358, 1, none⟩)), (107, .int .i32 t7355), (108, .slice (some ad7375) x6645.length C6647), (109, .int .i64 x7255), (110, .pointer (some ((ad7375.add (x7255.toNat * 1)).add 0))), (111, .int .i32 (x6645.getD x7255.toNat 0)), (112, .bool (false)), (114, .bool (false)), (115, .pointer (some ⟨g7358, 0, none⟩)), (117, .int .i64 x7255), (118, .int .i64 (Int.tmod x7255 16))] #[true, true, true, true, true, true, true, true, true, true, true, true, true, false, true, true, false, false] (by kernel_rfl) (by kernel_rfl) ?_
                        refine ED.Y hN hF hC 13 2 #[true, true, true, true, true, true, true, true, true, true, true, true, true, true, true, true, false, false] (by kernel_rfl) (by kernel_rfl) rfl (fun _ _ _ hS => YO.loadBox hS 0 rfl 3 0 1 (.int .i64 t7354) 116 (by kernel_rfl) (by kernel_rfl) (by kernel_rfl) (by kernel_rfl)) ?_
                        refine ED.quick hN hF hC [16, 17] [0, 5, 6, 12, 106, 107, 108, 109, 110, 111, 112, 115, 116, 117, 118, 119, 120] 0 [(0, .slice A8 l7.length C9), (5, .pointer (some ⟨g5169, 0, none⟩)), (6, .slice (some ad7375) x6645.length C6647), (12, .int .i64 x7255), (106, .pointer (some ⟨g7358, 1, none⟩)), (107, .int .i32 t7355), (108, .slice (some ad7375) x6645.length C6647), (109, .int .i64 x7255), (110, .pointer (some ((ad7375.add (x7255.toNat * 1)).add 0))), (111, .int .i32 (x6645.getD x7255.toNat 0)), (112, .bool (false)), (115, .pointer (some ⟨g7358, 0, none⟩)), (116, .int .i64 t7354), (117, .int .i64 x7255), (118, .int .i64 (Int.tmod x7255 16)), (119, .bool (!(decide (t7354 = (Int.tmod x7255 16))))), (120, .bool (!(decide (t7354 = (Int.tmod x7255 16)))))] #[true, true, true, true, true, true, true, true, true, true, true, true, true, true, true, true, true, true] (by kernel_rfl) (by kernel_rfl) ?_
                        refine ED.done (by kernel_rfl) ?_
                        refine EQ.to ?_
                        refine EQ.keep [0, 5, 6, 12, 120] [(0, .slice A8 l7.length C9), (5, .pointer (some ⟨g5169, 0, none⟩)), (6, .slice (some ad7375) x6645.length C6647), (12, .int .i64 x7255), (120, .bool (!(decide (t7354 = (Int.tmod x7255 16)))))] (by kernel_rfl) ?_
                        exact fun a ha => ⟨!(decide (t7354 = (Int.tmod x7255 16))), ha, (hS.re [4, 4, 4, 4, 4] [] rfl (sub_cons 0 rfl (sub_cons 0 rfl (sub_cons 2 rfl (sub_cons 3 rfl (sub_tail (sub_tail (sub_tail (sub_tail (sub_self)))))))))), H⟩
                      · rw [if_neg h7376] at H
                        have hS := hS.drew
                        refine EW.draw (B := B) (id := 25) (ops := Cd11.r.r.r.r.r.r.r.l.r.l.l.r.l.l.r.l.ops) [Ass.box 69 g7358 [.int .i64 t7354, .int .i32 t7355], Ass.box 95 g5169 [.slice A6643 x6642.length C6644, .slice A5172 t5168.length C5173], Ass.deep 76 69 kS69 A6643 C6644 x6642, Ass.own 3 (Kd.int .i64) A5172 C5173 t5168, Ass.own 21 (Kd.int .i32) (some ad7375) C6647 x6645] [Ro.sl (Kd.int .i64) (some ⟨g5165, 0, none⟩) 1 l5166, Ro.sl (Kd.int .i64) (some ⟨g5165, 0, none⟩) 1 l5166, Ro.sl (Kd.int .i32) A8 C9 l7, Ro.sl (Kd.int .u8) A11 C12 l10] (by kernel_rfl) (by kernel_rfl) ?_
                        have hN : Region.noSelect Cd11.r.r.r.r.r.r.r.l.r.l.l.r.l.l.r.l.ops = true := (by kernel_rfl)
                        have hF : freeAll Cd11.r.r.r.r.r.r.r.l.r.l.l.r.l.l.r.l.ops = true := (by kernel_rfl)
                        have hC : Core B [Ass.box 69 g7358 [.int .i64 t7354, .int .i32 t7355], Ass.box 95 g5169 [.slice A6643 x6642.length C6644, .slice A5172 t5168.length C5173], Ass.deep 76 69 kS69 A6643 C6644 x6642, Ass.own 3 (Kd.int .i64) A5172 C5173 t5168, Ass.own 21 (Kd.int .i32) (some ad7375) C6647 x6645] [Ro.sl (Kd.int .i64) (some ⟨g5165, 0, none⟩) 1 l5166, Ro.sl (Kd.int .i64) (some ⟨g5165, 0, none⟩) 1 l5166, Ro.sl (Kd.int .i32) A8 C9 l7, Ro.sl (Kd.int .u8) A11 C12 l10] _ := ⟨_, _, hS⟩
                        refine ED.quick hN hF hC [0, 1, 2] [0, 5, 6, 12, 13, 105] 15 [(0, .slice A8 l7.length C9), (5, .pointer (some ⟨g5169, 0, none⟩)), (6, .slice (some ad7375) x6645.length C6647), (12, .int .i64 x7255), (13, .pointer (some ⟨g7358, 0, none⟩)), (105, .bool (!(t7356)))] #[true, true, true, false, false, false, false, false, false, false, false, false, false, false, false, false, false, false] (by kernel_rfl) (by kernel_rfl) ?_
                        refine ED.keep [0, 5, 6, 12, 13, 105] [(0, .slice A8 l7.length C9), (5, .pointer (some ⟨g5169, 0, none⟩)), (6, .slice (some ad7375) x6645.length C6647), (12, .int .i64 x7255), (13, .pointer (some ⟨g7358, 0, none⟩)), (105, .bool (!(t7356)))] (by kernel_rfl) ?_
                        refine ED.as' [(0, .slice A8 l7.length C9), (5, .pointer (some ⟨g5169, 0, none⟩)), (6, .slice (some ad7375) x6645.length C6647), (12, .int .i64 x7255), (13, .pointer (some ⟨g7358, 0, none⟩)), (105, .bool (false))] (by simp only [h7372, Bool.not_true, Bool.not_false]) ?_
                        refine ED.quick hN hF hC [3, 5, 6] [0, 5, 6, 12, 13, 105, 106, 108, 109] 12 [(0, .slice A8 l7.length C9), (5, .pointer (some ⟨g5169, 0, none⟩)), (6, .slice (some ad7375) x6645.length C6647), (12, .int .i64 x7255), (13, .pointer (some ⟨g7358, 0, none⟩)), (105, .bool (false)), (106, .pointer (some ⟨g7358, 1, none⟩)), (108, .slice (some ad7375) x6645.length C6647), (109, .int .i64 x7255)] #[true, true, true, true, false, true, true, false, false, false, false, false, false, false, false, false, false, false] (by kernel_rfl) (by kernel_rfl) ?_
                        refine ED.Y hN hF hC 4 11 #[true, true, true, true, true, true, true, false, false, false, false, false, false, false, false, false, false, false] (by kernel_rfl) (by kernel_rfl) rfl (fun _ _ _ hS => YO.loadBox hS 0 rfl 21 1 1 (.int .i32 t7355) 107 (by kernel_rfl) (by kernel_rfl) (by kernel_rfl) (by kernel_rfl)) ?_
                        refine ED.Y hN hF hC 7 10 #[true, true, true, true, true, true, true, true, false, false, false, false, false, false, false, false, false, false] (by kernel_rfl) (by kernel_rfl) rfl (fun _ _ _ hS => YO.idx 80 1 ad7375 x6645.length C6647 .i64 x7255 110 (by kernel_rfl) (by kernel_rfl) (by kernel_rfl) (by kernel_rfl) h7373 h7374) ?_
                        refine ED.Y hN hF hC 8 9 #[true, true, true, true, true, true, true, true, true, false, false, false, false, false, false, false, false, false] (by kernel_rfl) (by kernel_rfl) rfl (fun _ _ _ hS => YO.loadEl hS (Kd.int .i32) ad7375 C6647 x6645 (Rd.own 4 21 rfl) 0 (encI .i32) encI_of x7255 h7373 h7374 21 1 0 1 rfl (.int .i32 (x6645.getD x7255.toNat 0)) 111 (by kernel_rfl) (by kernel_rfl) (by kernel_rfl) (by kernel_rfl)) ?_
                        refine ED.quick hN hF hC [9, 10, 11] [0, 5, 6, 12, 13, 106, 107, 108, 109, 110, 111, 112, 114] 6 [(0, .slice A8 l7.length C9), (5, .pointer (some ⟨g5169, 0, none⟩)), (6, .slice (some ad7375) x6645.length C6647), (12, .int .i64 x7255), (13, .pointer (some ⟨g7358, 0, none⟩)), (106, .pointer (some ⟨g7358, 1, none⟩)), (107, .int .i32 t7355), (108, .slice (some ad7375) x6645.length C6647), (109, .int .i64 x7255), (110, .pointer (some ((ad7375.add (x7255.toNat * 1)).add 0))), (111, .int .i32 (x6645.getD x7255.toNat 0)), (112, .bool (!(decide (t7355 = (x6645.getD x7255.toNat 0))))), (114, .bool (!(decide (t7355 = (x6645.getD x7255.toNat 0)))))] #[true, true, true, true, true, true, true, true, true, true, true, true, false, false, false, false, false, false] (by kernel_rfl) (by kernel_rfl) ?_
                        refine ED.keep [0, 5, 6, 12, 13, 106, 107, 108, 109, 110, 111, 112, 114] [(0, .slice A8 l7.length C9), (5, .pointer (some ⟨g5169, 0, none⟩)), (6, .slice (some ad7375) x6645.length C6647), (12, .int .i64 x7255), (13, .pointer (some ⟨g7358, 0, none⟩)), (106, .pointer (some ⟨g7358, 1, none⟩)), (107, .int .i32 t7355), (108, .slice (some ad7375) x6645.length C6647), (109, .int .i64 x7255), (110, .pointer (some ((ad7375.add (x7255.toNat * 1)).add 0))), (111, .int .i32 (x6645.getD x7255.toNat 0)), (112, .bool (!(decide (t7355 = (x6645.getD x7255.toNat 0))))), (114, .bool (!(decide (t7355 = (x6645.getD x7255.toNat 0)))))] (by kernel_rfl) ?_
                        refine ED.as' [(0, .slice A8 l7.length C9), (5, .pointer (some ⟨g5169, 0, none⟩)), (6, .slice (some ad7375) x6645.length C6647), (12, .int .i64 x7255), (13, .pointer (some ⟨g7358, 0, none⟩)), (106, .pointer (some ⟨g7358, 1, none⟩)), (107, .int .i32 t7355), (108, .slice (some ad7375) x6645.length C6647), (109, .int .i64 x7255), (110, .pointer (some ((ad7375.add (x7255.toNat * 1)).add 0))), (111, .int .i32 (x6645.getD x7255.toNat 0)), (112, .bool (true)), (114, .bool (true))] (by simp only [dec_f h7376, Bool.not_true, Bool.not_false]) ?_
                        refine ED.quick hN hF hC [12, 13, 14, 15, 16, 17] [0, 5, 6, 12, 106, 107, 108, 109, 110, 111, 112, 115, 116, 117, 118, 119, 120] 0 [(0, .slice A8 l7.length C9), (5, .pointer (some ⟨g5169, 0, none⟩)), (6, .slice (some ad7375) x6645.length C6647), (12, .int .i64 x7255), (106, .pointer (some ⟨g7358, 1, none⟩)), (107, .int .i32 t7355), (108, .slice (some ad7375) x6645.length C6647), (109, .int .i64 x7255), (110, .pointer (some ((ad7375.add (x7255.toNat * 1)).add 0))), (111, .int .i32 (x6645.getD x7255.toNat 0)), (112, .bool (true)), (115, undef), (116, undef), (117, undef), (118, undef), (119, undef), (120, .bool (true))] #[true, true, true, true, true, true, true, true, true, true, true, true, true, true, true, true, true, true] (by kernel_rfl) (by kernel_rfl) ?_
                        refine ED.done (by kernel_rfl) ?_
                        refine EQ.to ?_
                        refine EQ.keep [0, 5, 6, 12, 120] [(0, .slice A8 l7.length C9), (5, .pointer (some ⟨g5169, 0, none⟩)), (6, .slice (some ad7375) x6645.length C6647), (12, .int .i64 x7255), (120, .bool (true))] (by kernel_rfl) ?_
                        exact fun a ha => ⟨true, ha, (hS.re [4, 4, 4, 4, 4] [] rfl (sub_cons 0 rfl (sub_cons 0 rfl (sub_cons 2 rfl (sub_cons 3 rfl (sub_tail (sub_tail (sub_tail (sub_tail (sub_self)))))))))), H⟩
                    · rw [if_neg h7372] at H
                      have hS := hS.drew
                      refine EW.draw (B := B) (id := 25) (ops := Cd11.r.r.r.r.r.r.r.l.r.l.l.r.l.l.r.l.ops) [Ass.box 69 g7358 [.int .i64 t7354, .int .i32 t7355], Ass.box 95 g5169 [.slice A6643 x6642.length C6644, .slice A5172 t5168.length C5173], Ass.deep 76 69 kS69 A6643 C6644 x6642, Ass.own 3 (Kd.int .i64) A5172 C5173 t5168, Ass.own 21 (Kd.int .i32) A6646 C6647 x6645] [Ro.sl (Kd.int .i64) (some ⟨g5165, 0, none⟩) 1 l5166, Ro.sl (Kd.int .i64) (some ⟨g5165, 0, none⟩) 1 l5166, Ro.sl (Kd.int .i32) A8 C9 l7, Ro.sl (Kd.int .u8) A11 C12 l10] (by kernel_rfl) (by kernel_rfl) ?_
                      have hN : Region.noSelect Cd11.r.r.r.r.r.r.r.l.r.l.l.r.l.l.r.l.ops = true := (by kernel_rfl)
                      have hF : freeAll Cd11.r.r.r.r.r.r.r.l.r.l.l.r.l.l.r.l.ops = true := (by kernel_rfl)
                      have hC : Core B [Ass.box 69 g7358 [.int .i64 t7354, .int .i32 t7355], Ass.box 95 g5169 [.slice A6643 x6642.length C6644, .slice A5172 t5168.length C5173], Ass.deep 76 69 kS69 A6643 C6644 x6642, Ass.own 3 (Kd.int .i64) A5172 C5173 t5168, Ass.own 21 (Kd.int .i32) A6646 C6647 x6645] [Ro.sl (Kd.int .i64) (some ⟨g5165, 0, none⟩) 1 l5166, Ro.sl (Kd.int .i64) (some ⟨g5165, 0, none⟩) 1 l5166, Ro.sl (Kd.int .i32) A8 C9 l7, Ro.sl (Kd.int .u8) A11 C12 l10] _ := ⟨_, _, hS⟩
                      refine ED.quick hN hF hC [0, 1, 2] [0, 5, 6, 12, 13, 105] 15 [(0, .slice A8 l7.length C9), (5, .pointer (some ⟨g5169, 0, none⟩)), (6, .slice A6646 x6645.length C6647), (12, .int .i64 x7255), (13, .pointer (some ⟨g7358, 0, none⟩)), (105, .bool (!(t7356)))] #[true, true, true, false, false, false, false, false, false, false, false, false, false, false, false, false, false, false] (by kernel_rfl) (by kernel_rfl) ?_
                      refine ED.keep [0, 5, 6, 12, 13, 105] [(0, .slice A8 l7.length C9), (5, .pointer (some ⟨g5169, 0, none⟩)), (6, .slice A6646 x6645.length C6647), (12, .int .i64 x7255), (13, .pointer (some ⟨g7358, 0, none⟩)), (105, .bool (!(t7356)))] (by kernel_rfl) ?_
                      refine ED.as' [(0, .slice A8 l7.length C9), (5, .pointer (some ⟨g5169, 0, none⟩)), (6, .slice A6646 x6645.length C6647), (12, .int .i64 x7255), (13, .pointer (some ⟨g7358, 0, none⟩)), (105, .bool (true))] (by simp only [(Bool.eq_false_iff.2 h7372), Bool.not_true, Bool.not_false]) ?_
                      refine ED.quick hN hF hC [3, 4, 5, 6, 7, 8, 9, 10, 11, 12, 13, 14, 15, 16, 17] [0, 5, 6, 12, 106, 107, 108, 109, 110, 111, 112, 115, 116, 117, 118, 119, 120] 0 [(0, .slice A8 l7.length C9), (5, .pointer (some ⟨g5169, 0, none⟩)), (6, .slice A6646 x6645.length C6647), (12, .int .i64 x7255), (106, undef), (107, undef), (108, undef), (109, undef), (110, undef), (111, undef), (112, undef), (115, undef), (116, undef), (117, undef), (118, undef), (119, undef), (120, .bool (true))] #[true, true, true, true, true, true, true, true, true, true, true, true, true, true, true, true, true, true] (by kernel_rfl) (by kernel_rfl) ?_
                      refine ED.done (by kernel_rfl) ?_
                      refine EQ.to ?_
                      refine EQ.keep [0, 5, 6, 12, 120] [(0, .slice A8 l7.length C9), (5, .pointer (some ⟨g5169, 0, none⟩)), (6, .slice A6646 x6645.length C6647), (12, .int .i64 x7255), (120, .bool (true))] (by kernel_rfl) ?_
                      exact fun a ha => ⟨true, ha, (hS.re [4, 4, 4, 4, 4] [] rfl (sub_cons 0 rfl (sub_cons 0 rfl (sub_cons 2 rfl (sub_cons 3 rfl (sub_tail (sub_tail (sub_tail (sub_tail (sub_self)))))))))), H⟩
                  · obtain ⟨x7370, ha, hS, H⟩ := hI
                    rw [hj7371] at H
                    (try dsimp only at H)
                    refine EW.at ?_ a ha
                    clear ha a
                    refine EW.condP' (o := (.tmp 120)) (x := Cd11.r.r.r.r.r.r.r.l.r.l.l.r.l.l.r.r.l) (y := Cd11.r.r.r.r.r.r.r.l.r.l.l.r.l.l.r.r.r) (x7370) (by kernel_rfl) (by kernel_rfl) (fun h7377 => ?_) (fun h7377 => ?_)
                    · rw [if_pos h7377] at H
                      refine EW.seq (x := Cd11.r.r.r.r.r.r.r.l.r.l.l.r.l.l.r.r.l.l) (y := Cd11.r.r.r.r.r.r.r.l.r.l.l.r.l.l.r.r.l.r) (by kernel_rfl) ?_
                      refine EW.region (id := 26) (ops := Cd11.r.r.r.r.r.r.r.l.r.l.l.r.l.l.r.r.l.l.ops) (by kernel_rfl) ?_
                      refine EL.quick 1 [4] [(4, .bool (false))] (by kernel_rfl) ?_
                      refine EL.done (by kernel_rfl) ?_
                      refine EQ.code ?_
                      refine EW.ret (by kernel_rfl) ?_
                      refine EQ.ret ?_
                      refine EQ.ret ?_
                      refine EQ.ret ?_
                      refine EQ.ret ?_
                      refine EQ.ret ?_
                      obtain rfl := Option.some.inj H
                      exact EQ.leave (.bool (false)) (by kernel_rfl) ⟨_, rfl, rfl, (hS.re [] [0, 0, 0, 0, 0] rfl (sub_tail (sub_tail (sub_self))))⟩
                    · rw [if_neg h7377] at H
                      refine EW.skip (by kernel_rfl) ?_
                      refine EQ.pop ?_
                      refine EQ.code ?_
                      refine EW.region (id := 23) (ops := Cd11.r.r.r.r.r.r.r.l.r.l.l.r.r.ops) (by kernel_rfl) ?_
                      refine EL.quick 3 [0, 5, 6, 12] [(0, .slice A8 l7.length C9), (5, .pointer (some ⟨g5169, 0, none⟩)), (6, .slice A6646 x6645.length C6647), (12, .int .i64 (IntKind.i64.wrap (x7255 + 1)))] (by kernel_rfl) ?_
                      refine EL.done (by kernel_rfl) ?_
                      refine EQ.to ?_
                      refine EQ.keep [0, 5, 6, 12] [(0, .slice A8 l7.length C9), (5, .pointer (some ⟨g5169, 0, none⟩)), (6, .slice A6646 x6645.length C6647), (12, .int .i64 (IntKind.i64.wrap (x7255 + 1)))] (by kernel_rfl) ?_
                      exact fun a ha => ⟨n, Nat.lt_succ_self n, IntKind.i64.wrap (x7255 + 1), ha, (hS.re [4, 4, 4, 4] [4] rfl (sub_cons 0 rfl (sub_cons 0 rfl (sub_cons 2 rfl (sub_cons 3 rfl (sub_tail (sub_tail (sub_tail (sub_tail (sub_self)))))))))), H⟩
                · rw [if_neg h7319] at H
                  refine EW.exit (id := 4) (by kernel_rfl) ?_
                  refine EQ.exitCode ?_
                  refine EQ.exitTo ?_
                  refine EQ.exitHere ?_
                  refine EQ.to ?_
                  refine EQ.keep [0, 5] [(0, .slice A8 l7.length C9), (5, .pointer (some ⟨g5169, 0, none⟩))] (by kernel_rfl) ?_
                  exact fun a ha => ⟨ha, (hS.re [3, 3, 3, 3] [] rfl (sub_cons 0 rfl (sub_cons 0 rfl (sub_cons 2 rfl (sub_cons 3 rfl (sub_tail (sub_tail (sub_tail (sub_tail (sub_self)))))))))), H⟩
            · obtain ⟨ha, hS, H⟩ := hI
              rw [hj7198] at H
              (try dsimp only at H)
              refine EW.at ?_ a ha
              clear ha a
              refine EW.seq (x := Cd11.r.r.r.r.r.r.r.r.l) (y := Cd11.r.r.r.r.r.r.r.r.r) (by kernel_rfl) ?_
              refine EW.region (id := 27) (ops := Cd11.r.r.r.r.r.r.r.r.l.ops) (by kernel_rfl) ?_
              refine EL.quick 4 [0, 5, 121, 124] [(0, .slice A8 l7.length C9), (5, .pointer (some ⟨g5169, 0, none⟩)), (121, .pointer (some ⟨g5169, 0, none⟩)), (124, .int .i32 (IntKind.i32.wrap (l7.length : Int)))] (by kernel_rfl) ?_
              obtain ⟨t7378, t7379, hc7382, H⟩ := b2_out H
              refine EL.of (EO.callD 40 [.pointer (some ⟨g5169, 0, none⟩), .int .i32 (IntKind.i32.wrap (l7.length : Int)), .int .i32 0] _ 125 (by kernel_rfl) (by kernel_rfl) (by kernel_rfl) (arena_Arena_Set.calls hc7382 hS) ?_)
              rintro v w ⟨A7380, C7381, rfl, hS⟩
              refine EL.quick 2 [0, 5, 127] [(0, .slice A8 l7.length C9), (5, .pointer (some ⟨g5169, 0, none⟩)), (127, .bool (!(t7379)))] (by kernel_rfl) ?_
              by_cases h7383 : t7379 = true
              · rw [if_pos h7383] at H
                refine EL.keep [0, 5, 127] [(0, .slice A8 l7.length C9), (5, .pointer (some ⟨g5169, 0, none⟩)), (127, .bool (!(t7379)))] (by kernel_rfl) ?_
                refine EL.as' [(0, .slice A8 l7.length C9), (5, .pointer (some ⟨g5169, 0, none⟩)), (127, .bool (false))] (by simp only [h7383, Bool.not_true, Bool.not_false]) ?_
                refine EL.quick 12 [4] [(4, .bool (false))] (by kernel_rfl) ?_
                refine EL.done (by kernel_rfl) ?_
                refine EQ.code ?_
                refine EW.ret (by kernel_rfl) ?_
                obtain rfl := Option.some.inj H
                exact EQ.leave (.bool (false)) (by kernel_rfl) ⟨_, rfl, rfl, (hS.re [] [0, 0, 0, 0] rfl (sub_tail (sub_tail (sub_self))))⟩
              · rw [if_neg h7383] at H
                refine EL.keep [0, 5, 127] [(0, .slice A8 l7.length C9), (5, .pointer (some ⟨g5169, 0, none⟩)), (127, .bool (!(t7379)))] (by kernel_rfl) ?_
                refine EL.as' [(0, .slice A8 l7.length C9), (5, .pointer (some ⟨g5169, 0, none⟩)), (127, .bool (true))] (by simp only [(Bool.eq_false_iff.2 h7383), Bool.not_true, Bool.not_false]) ?_
                refine EL.quick 1 [0, 5, 127, 128] [(0, .slice A8 l7.length C9), (5, .pointer (some ⟨g5169, 0, none⟩)), (127, .bool (true)), (128, .pointer (some ⟨g5169, 0, none⟩))] (by kernel_rfl) ?_
                obtain ⟨t7384, t7385, hc7388, H⟩ := b2_out H
                refine EL.of (EO.callD 40 [.pointer (some ⟨g5169, 0, none⟩), .int .i32 (-1), .int .i32 0] _ 129 (by kernel_rfl) (by kernel_rfl) (by kernel_rfl) (arena_Arena_Set.calls hc7388 hS) ?_)
                rintro v w ⟨A7386, C7387, rfl, hS⟩
                refine EL.quick 3 [0, 5, 132] [(0, .slice A8 l7.length C9), (5, .pointer (some ⟨g5169, 0, none⟩)), (132, .bool (!(t7385)))] (by kernel_rfl) ?_
                by_cases h7389 : t7385 = true
                · rw [if_pos h7389] at H
                  refine EL.keep [0, 5, 132] [(0, .slice A8 l7.length C9), (5, .pointer (some ⟨g5169, 0, none⟩)), (132, .bool (!(t7385)))] (by kernel_rfl) ?_
                  refine EL.as' [(0, .slice A8 l7.length C9), (5, .pointer (some ⟨g5169, 0, none⟩)), (132, .bool (false))] (by simp only [h7389, Bool.not_true, Bool.not_false]) ?_
                  refine EL.quick 7 [4] [(4, .bool (false))] (by kernel_rfl) ?_
                  refine EL.done (by kernel_rfl) ?_
                  refine EQ.code ?_
                  refine EW.ret (by kernel_rfl) ?_
                  obtain rfl := Option.some.inj H
                  exact EQ.leave (.bool (false)) (by kernel_rfl) ⟨_, rfl, rfl, (hS.re [] [0, 0, 0, 0] rfl (sub_tail (sub_tail (sub_self))))⟩
                · rw [if_neg h7389] at H
                  refine EL.keep [0, 5, 132] [(0, .slice A8 l7.length C9), (5, .pointer (some ⟨g5169, 0, none⟩)), (132, .bool (!(t7385)))] (by kernel_rfl) ?_
                  refine EL.as' [(0, .slice A8 l7.length C9), (5, .pointer (some ⟨g5169, 0, none⟩)), (132, .bool (true))] (by simp only [(Bool.eq_false_iff.2 h7389), Bool.not_true, Bool.not_false]) ?_
                  refine EL.quick 1 [0, 132, 133] [(0, .slice A8 l7.length C9), (132, .bool (true)), (133, .pointer (some ⟨g5169, 0, none⟩))] (by kernel_rfl) ?_
                  obtain ⟨t7390, hc7391, H⟩ := b1_out H
                  refine EL.of (EO.callD 42 [.pointer (some ⟨g5169, 0, none⟩), .int .i64 0] _ 134 (by kernel_rfl) (by kernel_rfl) (by kernel_rfl) (arena_Arena_Count.calls hc7391 hS) ?_)
                  rintro v w ⟨rfl, hS⟩
                  refine EL.quick 5 [4] [(4, .bool (decide (t7390 = (l7.length : Int))))] (by kernel_rfl) ?_
                  refine EL.done (by kernel_rfl) ?_
                  refine EQ.code ?_
                  refine EW.ret (by kernel_rfl) ?_
                  obtain rfl := Option.some.inj H
                  exact EQ.leave (.bool (decide (t7390 = (l7.length : Int)))) (by kernel_rfl) ⟨_, rfl, rfl, (hS.re [] [0, 0, 0, 0] rfl (sub_tail (sub_tail (sub_self))))⟩
  · rw [if_neg h5134] at H
    refine EW.seq (x := Cd11.r.l.r.l.l) (y := Cd11.r.l.r.l.r) (by kernel_rfl) ?_
    refine EW.region (id := 2) (ops := Cd11.r.l.r.l.l.ops) (by kernel_rfl) ?_
    refine EL.quick 1 [4] [(4, .bool (false))] (by kernel_rfl) ?_
    refine EL.done (by kernel_rfl) ?_
    refine EQ.code ?_
    refine EW.ret (by kernel_rfl) ?_
    refine EQ.ret ?_
    obtain rfl := Option.some.inj H
    exact EQ.leave (.bool (false)) (by kernel_rfl) ⟨_, rfl, rfl, (hS.re [] [] rfl (sub_self))⟩

def confidantlaw12_ArenaHolds.Pure : Prop := ∀ (l7 : List Int) (l10 : List Int), l7.length * 4 ≤ 140737488351232 → (∀ x ∈ l7, (Lit.int .i32 x).wf = true) → l10.length * 1 ≤ 140737488351232 → (∀ x ∈ l10, (Lit.int .u8 x).wf = true) → ∃ K, confidantlaw12_ArenaHolds.f K l7 l10 = some true

end Go.Proofs.Ytifnjijlbcacoaa.G
