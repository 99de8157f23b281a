import Derived.Test.YtjfnejcanlkknaaG0
namespace Go.Proofs.Ytjfnejcanlkknaa.G
open Go Go.Fw Go.RowKit Go.Proofs
set_option linter.unusedVariables false
set_option linter.unusedSimpArgs false

/-! ### confidant/confidantlaw18.TableTells: function 7 -/
def confidantlaw18_TableTells.l3 (K : Nat) (l28983 : List Int) (l20174 : List (List Int)) (x23240 : Int) (a20 : Int) (a21 : Int) (a22 : Int) (j28360 : (List Int) → (List Int) → Option Bool) (x28773 : List Int) : Nat → Int → Option Bool
  | 0, _ => none
  | n + 1, x29114 => if x29114 < (l28983.length : Int) then (if 0 ≤ x29114 then (lt (fun (x29358 : Bool) => (if x29358 = true then (some false) else (confidantlaw18_TableTells.l3 K l28983 l20174 x23240 a20 a21 a22 j28360 x28773 n (IntKind.i64.wrap (x29114 + 1))))) fun j29359 => (b1 (table_At.f K (l20174.getD x23240.toNat []) (mn (mx a20 (-5)) 1048576)) fun (t29360 : Int) => (b1 (confidantref15_At.f K (l20174.getD x23240.toNat []) (mn (mx a20 (-5)) 1048576)) fun (t29362 : Int) => (if t29360 = t29362 then (b1 (table_Next.f K (l20174.getD x23240.toNat []) (l28983.getD x29114.toNat 0) (mn (mx a20 (-5)) 1048576)) fun (t29365 : Int) => (b1 (confidantref15_NextRound.f K (l20174.getD x23240.toNat []) (l28983.getD x29114.toNat 0) (mn (mx a20 (-5)) 1048576)) fun (t29367 : Int) => (if t29365 = t29367 then (b1 (table_Slots.f K (l20174.getD x23240.toNat []) (l28983.getD x29114.toNat 0) (mn (mx a20 (-5)) 1048576) (mn (mx a21 (-5)) 1048576)) fun (t29370 : Int) => (b1 (confidantref15_Slots.f K (l20174.getD x23240.toNat []) (l28983.getD x29114.toNat 0) (mn (mx a20 (-5)) 1048576) (mn (mx a21 (-5)) 1048576)) fun (t29372 : Int) => (if t29370 = t29372 then (b1 (table_Slots.f K (l20174.getD x23240.toNat []) (l28983.getD x29114.toNat 0) (IntKind.i64.wrap a22) (IntKind.i64.wrap ((IntKind.i64.wrap a22) + (IntKind.i64.wrap (IntKind.u8.wrap (Int.tdiv a22 3)))))) fun (t29375 : Int) => (b1 (confidantref15_Slots.f K (l20174.getD x23240.toNat []) (l28983.getD x29114.toNat 0) (IntKind.i64.wrap a22) (IntKind.i64.wrap ((IntKind.i64.wrap a22) + (IntKind.i64.wrap (IntKind.u8.wrap (Int.tdiv a22 3)))))) fun (t29377 : Int) => (lt (IntKind.i64.wrap ((IntKind.i64.wrap a22) + (IntKind.i64.wrap (IntKind.u8.wrap (Int.tdiv a22 3))))) fun y29379 => (j29359 (!(decide (t29375 = t29377))))))) else (j29359 true)))) else (j29359 true)))) else (j29359 true))))) else none) else (j28360 l28983 x28773)
def confidantlaw18_TableTells.l2 (K : Nat) (l28780 : List Int) (l20174 : List (List Int)) (x23240 : Int) (j28776 : (List Int) → Option Bool) : Nat → Int → Option Bool
  | 0, _ => none
  | n + 1, x28845 => if x28845 < (l28780.length : Int) then (if 0 ≤ x28845 then (lt (fun (x28968 : Bool) => (if x28968 = true then (some false) else (confidantlaw18_TableTells.l2 K l28780 l20174 x23240 j28776 n (IntKind.i64.wrap (x28845 + 1))))) fun j28969 => (b1 (table_Right.f K (l20174.getD x23240.toNat []) (l28780.getD x28845.toNat 0)) fun (t28970 : Bool) => (b1 (confidantref15_TableRight.f K (l20174.getD x23240.toNat []) (l28780.getD x28845.toNat 0)) fun (t28972 : Bool) => (if (t28970 == t28972) = true then (b1 (table_All.f K (l20174.getD x23240.toNat []) (l28780.getD x28845.toNat 0)) fun (t28975 : Bool) => (b1 (confidantref15_TableAll.f K (l20174.getD x23240.toNat []) (l28780.getD x28845.toNat 0)) fun (t28977 : Bool) => (j28969 (!((t28975 == t28977)))))) else (j28969 true))))) else none) else (j28776 l28780)
def confidantlaw18_TableTells.l1 (K : Nat) (l20174 : List (List Int)) (a19 : Int) (a22 : Int) (a20 : Int) (a21 : Int) (a18 : Int) : Nat → Int → Option Bool
  | 0, _ => none
  | n + 1, x23240 => if x23240 < (l20174.length : Int) then (lt (fun (x28354 : List Int) (x28357 : List Int) => (confidantlaw18_TableTells.l1 K l20174 a19 a22 a20 a21 a18 n (IntKind.i64.wrap (x23240 + 1)))) fun j28360 => (if 0 ≤ x23240 then (lt (fun (x28773 : List Int) => (lt ([a19, IntKind.i64.wrap (Int.tmod a22 6)] : List Int) fun l28983 => (confidantlaw18_TableTells.l3 K l28983 l20174 x23240 a20 a21 a22 j28360 x28773 K 0))) fun j28776 => (lt ([a18, IntKind.i64.wrap (Int.tmod a22 7)] : List Int) fun l28780 => (confidantlaw18_TableTells.l2 K l28780 l20174 x23240 j28776 K 0))) else none)) else (some true)
def confidantlaw18_TableTells.l0 (K : Nat) (l15 : List Int) (j20062 : (List Int) → Option Bool) : Nat → (List Int) → Int → Option Bool
  | 0, _, _ => none
  | n + 1, x20121, x20125 => if x20125 < (l15.length : Int) then (if 0 ≤ x20125 then (lt ([IntKind.i64.wrap (Int.tmod (l15.getD x20125.toNat 0) 5)] : List Int) fun l20166 => (if (x20121.length + l20166.length) * 8 ≤ 140737488355328 then (lt (x20121 ++ l20166) fun l20168 => (confidantlaw18_TableTells.l0 K l15 j20062 n l20168 (IntKind.i64.wrap (x20125 + 1)))) else none)) else none) else (j20062 x20121)
def confidantlaw18_TableTells.f (K : Nat) (l12 : List Int) (l15 : List Int) (a18 : Int) (a19 : Int) (a20 : Int) (a21 : Int) (a22 : Int) : Option Bool := b1 (confidantlaw18_known.f K) fun (t19826 : Bool) => (if t19826 = true then (lt (fun (x19837 : Bool) => (if x19837 = true then (some true) else (lt (fun (x20057 : List Int) => (lt ([l12, x20057] : List (List Int)) fun l20174 => (confidantlaw18_TableTells.l1 K l20174 a19 a22 a20 a21 a18 K 0))) fun j20062 => (confidantlaw18_TableTells.l0 K l15 j20062 K ([] : List Int) 0)))) fun j19838 => (if (l12.length : Int) > 80 then (j19838 true) else (j19838 (decide ((l15.length : Int) > 70))))) else (some false))
set_option maxRecDepth 100000 in
theorem confidantlaw18_TableTells.calls {K : Nat} {l12 : List Int} {l15 : List Int} {a18 : Int} {a19 : Int} {a20 : Int} {a21 : Int} {a22 : Int} {A13 : Option Addr} {C14 : Nat} {A16 : Option Addr} {C17 : Nat} {x19818 : Bool} {B w : World} {os : List Ass} {rs : List Ro} (H : confidantlaw18_TableTells.f K l12 l15 a18 a19 a20 a21 a22 = some x19818) (hS : St B w (os) (Ro.sl (Kd.int .i64) A13 C14 l12 :: Ro.sl (Kd.int .u8) A16 C17 l15 :: rs)) :
    Calls Try.prog 7 [.slice A13 l12.length C14, .slice A16 l15.length C17, .int .i64 a18, .int .i64 a19, .int .i64 a20, .int .i64 a21, .int .u8 a22].toArray w (fun en w' => ∃ v, en = .returned v ∧ v = .bool (x19818) ∧ St B w' (os) (Ro.sl (Kd.int .i64) A13 C14 l12 :: Ro.sl (Kd.int .u8) A16 C17 l15 :: rs)) := by
  unfold confidantlaw18_TableTells.f at H
  refine calls_of_EW (args := [.slice A13 l12.length C14, .slice A16 l15.length C17, .int .i64 a18, .int .i64 a19, .int .i64 a20, .int .i64 a21, .int .u8 a22]) (c := C7) 159 Try.func7 (by kernel_rfl) (by kernel_rfl) (by kernel_rfl) ?_
  refine EW.seq (x := C7.l) (y := C7.r) (by kernel_rfl) ?_
  refine EW.region (id := 0) (ops := C7.l.ops) (by kernel_rfl) ?_
  refine EL.quick 1 [0, 1, 2, 3, 4, 5, 6] [(0, .slice A13 l12.length C14), (1, .slice A16 l15.length C17), (2, .int .i64 a18), (3, .int .i64 a19), (4, .int .i64 a20), (5, .int .i64 a21), (6, .int .u8 a22)] (by kernel_rfl) ?_
  refine EL.done (by kernel_rfl) ?_
  refine EQ.code ?_
  refine EW.seq (x := C7.r.l) (y := C7.r.r) (by kernel_rfl) ?_
  refine EW.seq (x := C7.r.l.l) (y := C7.r.l.r) (by kernel_rfl) ?_
  refine EW.region (id := 1) (ops := C7.r.l.l.ops) (by kernel_rfl) ?_
  obtain ⟨t19826, hc19827, H⟩ := b1_out H
  refine EL.of (EO.callD 31 [] _ 25 (by kernel_rfl) (by kernel_rfl) (by kernel_rfl) (confidantlaw18_known.calls hc19827 hS) ?_)
  rintro v w ⟨rfl, hS⟩
  refine EL.quick 1 [0, 1, 2, 3, 4, 5, 6, 26] [(0, .slice A13 l12.length C14), (1, .slice A16 l15.length C17), (2, .int .i64 a18), (3, .int .i64 a19), (4, .int .i64 a20), (5, .int .i64 a21), (6, .int .u8 a22), (26, .bool (!(t19826)))] (by kernel_rfl) ?_
  refine EL.done (by kernel_rfl) ?_
  refine EQ.code ?_
  refine EW.condQ (b := !(t19826)) (o := (.tmp 26)) (x := C7.r.l.r.l) (y := C7.r.l.r.r) (t19826 = true) (false) (by kernel_rfl) (by kernel_rfl) (by constructor <;> intro h <;> simp [h]) (fun h19828 => ?_) (fun h19828 => ?_)
  · rw [if_pos h19828] at H
    refine EW.skip (by kernel_rfl) ?_
    refine EQ.code ?_
    refine EW.seq (x := C7.r.r.l) (y := C7.r.r.r) (by kernel_rfl) ?_
    obtain ⟨j19838, hj19838, H⟩ := lt_out H
    refine EW.cut (x := C7.r.r.l.l) (y := C7.r.r.l.r) (fun a w => ∃ x19837 : Bool, Sat 159 [(0, .slice A13 l12.length C14), (1, .slice A16 l15.length C17), (2, .int .i64 a18), (3, .int .i64 a19), (4, .int .i64 a20), (5, .int .i64 a21), (6, .int .u8 a22), (34, .bool (x19837))] a ∧ St B w (os) (Ro.sl (Kd.int .i64) A13 C14 l12 :: Ro.sl (Kd.int .u8) A16 C17 l15 :: rs) ∧ j19838 x19837 = some x19818) (by kernel_rfl) ?_ (fun a w hI => ?_)
    · refine EW.region (id := 3) (ops := C7.r.r.l.l.ops) (by kernel_rfl) ?_
      refine EL.quick 4 [0, 1, 2, 3, 4, 5, 6, 30] [(0, .slice A13 l12.length C14), (1, .slice A16 l15.length C17), (2, .int .i64 a18), (3, .int .i64 a19), (4, .int .i64 a20), (5, .int .i64 a21), (6, .int .u8 a22), (30, .bool (decide ((l12.length : Int) > 80)))] (by kernel_rfl) ?_
      by_cases h19839 : (l12.length : Int) > 80
      · rw [if_pos h19839] at H
        refine EL.keep [0, 1, 2, 3, 4, 5, 6, 30] [(0, .slice A13 l12.length C14), (1, .slice A16 l15.length C17), (2, .int .i64 a18), (3, .int .i64 a19), (4, .int .i64 a20), (5, .int .i64 a21), (6, .int .u8 a22), (30, .bool (decide ((l12.length : Int) > 80)))] (by kernel_rfl) ?_
        refine EL.as' [(0, .slice A13 l12.length C14), (1, .slice A16 l15.length C17), (2, .int .i64 a18), (3, .int .i64 a19), (4, .int .i64 a20), (5, .int .i64 a21), (6, .int .u8 a22), (30, .bool (true))] (by simp only [dec_t h19839, Bool.not_true, Bool.not_false]) ?_
        refine EL.quick 4 [0, 1, 2, 3, 4, 5, 6, 34] [(0, .slice A13 l12.length C14), (1, .slice A16 l15.length C17), (2, .int .i64 a18), (3, .int .i64 a19), (4, .int .i64 a20), (5, .int .i64 a21), (6, .int .u8 a22), (34, .bool (true))] (by kernel_rfl) ?_
        refine EL.done (by kernel_rfl) ?_
        refine EQ.to ?_
        refine EQ.keep [0, 1, 2, 3, 4, 5, 6, 34] [(0, .slice A13 l12.length C14), (1, .slice A16 l15.length C17), (2, .int .i64 a18), (3, .int .i64 a19), (4, .int .i64 a20), (5, .int .i64 a21), (6, .int .u8 a22), (34, .bool (true))] (by kernel_rfl) ?_
        exact fun a ha => ⟨true, ha, (hS.re [] [] rfl (sub_cons 0 rfl (sub_cons 1 rfl (sub_tail (sub_tail (sub_self)))))), H⟩
      · rw [if_neg h19839] at H
        refine EL.keep [0, 1, 2, 3, 4, 5, 6, 30] [(0, .slice A13 l12.length C14), (1, .slice A16 l15.length C17), (2, .int .i64 a18), (3, .int .i64 a19), (4, .int .i64 a20), (5, .int .i64 a21), (6, .int .u8 a22), (30, .bool (decide ((l12.length : Int) > 80)))] (by kernel_rfl) ?_
        refine EL.as' [(0, .slice A13 l12.length C14), (1, .slice A16 l15.length C17), (2, .int .i64 a18), (3, .int .i64 a19), (4, .int .i64 a20), (5, .int .i64 a21), (6, .int .u8 a22), (30, .bool (false))] (by simp only [dec_f h19839, Bool.not_true, Bool.not_false]) ?_
        refine EL.quick 4 [0, 1, 2, 3, 4, 5, 6, 34] [(0, .slice A13 l12.length C14), (1, .slice A16 l15.length C17), (2, .int .i64 a18), (3, .int .i64 a19), (4, .int .i64 a20), (5, .int .i64 a21), (6, .int .u8 a22), (34, .bool (decide ((l15.length : Int) > 70)))] (by kernel_rfl) ?_
        refine EL.done (by kernel_rfl) ?_
        refine EQ.to ?_
        refine EQ.keep [0, 1, 2, 3, 4, 5, 6, 34] [(0, .slice A13 l12.length C14), (1, .slice A16 l15.length C17), (2, .int .i64 a18), (3, .int .i64 a19), (4, .int .i64 a20), (5, .int .i64 a21), (6, .int .u8 a22), (34, .bool (decide ((l15.length : Int) > 70)))] (by kernel_rfl) ?_
        exact fun a ha => ⟨decide ((l15.length : Int) > 70), ha, (hS.re [] [] rfl (sub_cons 0 rfl (sub_cons 1 rfl (sub_tail (sub_tail (sub_self)))))), H⟩
    · obtain ⟨x19837, ha, hS, H⟩ := hI
      rw [hj19838] at H
      (try dsimp only at H)
      refine EW.at ?_ a ha
      clear ha a
      refine EW.condP' (o := (.tmp 34)) (x := C7.r.r.l.r.l) (y := C7.r.r.l.r.r) (x19837) (by kernel_rfl) (by kernel_rfl) (fun h19840 => ?_) (fun h19840 => ?_)
      · rw [if_pos h19840] at H
        refine EW.seq (x := C7.r.r.l.r.l.l) (y := C7.r.r.l.r.l.r) (by kernel_rfl) ?_
        refine EW.region (id := 4) (ops := C7.r.r.l.r.l.l.ops) (by kernel_rfl) ?_
        refine EL.quick 1 [14] [(14, .bool (true))] (by kernel_rfl) ?_
        refine EL.done (by kernel_rfl) ?_
        refine EQ.code ?_
        refine EW.ret (by kernel_rfl) ?_
        refine EQ.ret ?_
        obtain rfl := Option.some.inj H
        exact EQ.leave (.bool (true)) (by kernel_rfl) ⟨_, rfl, rfl, (hS.re [] [] rfl (sub_self))⟩
      · rw [if_neg h19840] at H
        refine EW.skip (by kernel_rfl) ?_
        refine EQ.code ?_
        refine EW.seq (x := C7.r.r.r.l) (y := C7.r.r.r.r) (by kernel_rfl) ?_
        refine EW.region (id := 5) (ops := C7.r.r.r.l.ops) (by kernel_rfl) ?_
        refine EL.quick 1 [0, 1, 2, 3, 4, 5, 6, 15] [(0, .slice A13 l12.length C14), (1, .slice A16 l15.length C17), (2, .int .i64 a18), (3, .int .i64 a19), (4, .int .i64 a20), (5, .int .i64 a21), (6, .int .u8 a22), (15, .slice none ([] : List Int).length 0)] (by kernel_rfl) ?_
        refine EL.done (by kernel_rfl) ?_
        refine EQ.code ?_
        obtain ⟨j20062, hj20062, H⟩ := lt_out H
        refine EW.cut (x := C7.r.r.r.r.l) (y := C7.r.r.r.r.r) (fun a w => ∃ x20057 : List Int, ∃ A20058 : Option Addr, ∃ C20059 : Nat, Sat 159 [(0, .slice A13 l12.length C14), (2, .int .i64 a18), (3, .int .i64 a19), (4, .int .i64 a20), (5, .int .i64 a21), (6, .int .u8 a22), (15, .slice A20058 x20057.length C20059)] a ∧ St B w (Ass.own 3 (Kd.int .i64) A20058 C20059 x20057 :: os) (Ro.sl (Kd.int .i64) A13 C14 l12 :: Ro.sl (Kd.int .u8) A16 C17 l15 :: rs) ∧ j20062 x20057 = some x19818) (by kernel_rfl) ?_ (fun a w hI => ?_)
        · refine EW.seq (x := C7.r.r.r.r.l.l) (y := C7.r.r.r.r.l.r) (by kernel_rfl) ?_
          refine EW.region (id := 6) (ops := C7.r.r.r.r.l.l.ops) (by kernel_rfl) ?_
          refine EL.quick 1 [0, 1, 2, 3, 4, 5, 6, 15, 16] [(0, .slice A13 l12.length C14), (1, .slice A16 l15.length C17), (2, .int .i64 a18), (3, .int .i64 a19), (4, .int .i64 a20), (5, .int .i64 a21), (6, .int .u8 a22), (15, .slice none ([] : List Int).length 0), (16, .int .i64 0)] (by kernel_rfl) ?_
          refine EL.done (by kernel_rfl) ?_
          refine EQ.code ?_
          refine EW.block (x := C7.r.r.r.r.l.r.l) (id := 0) (by kernel_rfl) ?_
          have hS := St.nilO hS 3 (Kd.int .i64)
          refine EW.loop (x := C7.r.r.r.r.l.r.l.l) (fun n a w => ∃ x20121 : List Int, ∃ x20125 : Int, ∃ A20122 : Option Addr, ∃ C20123 : Nat, Sat 159 [(0, .slice A13 l12.length C14), (1, .slice A16 l15.length C17), (2, .int .i64 a18), (3, .int .i64 a19), (4, .int .i64 a20), (5, .int .i64 a21), (6, .int .u8 a22), (15, .slice A20122 x20121.length C20123), (16, .int .i64 x20125)] a ∧ St B w (Ass.own 3 (Kd.int .i64) A20122 C20123 x20121 :: os) (Ro.sl (Kd.int .i64) A13 C14 l12 :: Ro.sl (Kd.int .u8) A16 C17 l15 :: rs) ∧ confidantlaw18_TableTells.l0 K l15 j20062 n x20121 x20125 = some x19818) K (by kernel_rfl) ?_ (fun n a w hI => ?_)
          · refine EQ.keep [0, 1, 2, 3, 4, 5, 6, 15, 16] [(0, .slice A13 l12.length C14), (1, .slice A16 l15.length C17), (2, .int .i64 a18), (3, .int .i64 a19), (4, .int .i64 a20), (5, .int .i64 a21), (6, .int .u8 a22), (15, .slice none ([] : List Int).length 0), (16, .int .i64 0)] (by kernel_rfl) ?_
            exact fun a ha => ⟨([] : List Int), 0, none, 0, ha, (hS.re [0] [] rfl (sub_cons 0 rfl (sub_cons 1 rfl (sub_tail (sub_tail (sub_self)))))), H⟩
          · obtain ⟨x20121, x20125, A20122, C20123, ha, hS, H⟩ := hI
            obtain _ | n := n
            · simp [confidantlaw18_TableTells.l0] at H
            rw [confidantlaw18_TableTells.l0.eq_2] at H
            refine EW.at ?_ a ha
            clear ha a
            refine EW.seq (x := C7.r.r.r.r.l.r.l.l.l) (y := C7.r.r.r.r.l.r.l.l.r) (by kernel_rfl) ?_
            refine EW.seq (x := C7.r.r.r.r.l.r.l.l.l.l) (y := C7.r.r.r.r.l.r.l.l.l.r) (by kernel_rfl) ?_
            refine EW.region (id := 7) (ops := C7.r.r.r.r.l.r.l.l.l.l.ops) (by kernel_rfl) ?_
            refine EL.quick 4 [0, 1, 2, 3, 4, 5, 6, 15, 16, 38] [(0, .slice A13 l12.length C14), (1, .slice A16 l15.length C17), (2, .int .i64 a18), (3, .int .i64 a19), (4, .int .i64 a20), (5, .int .i64 a21), (6, .int .u8 a22), (15, .slice A20122 x20121.length C20123), (16, .int .i64 x20125), (38, .bool (decide (x20125 < (l15.length : Int))))] (by kernel_rfl) ?_
            refine EL.done (by kernel_rfl) ?_
            refine EQ.code ?_
            refine EW.condP (o := (.tmp 38)) (x := C7.r.r.r.r.l.r.l.l.l.r.l) (y := C7.r.r.r.r.l.r.l.l.l.r.r) (x20125 < (l15.length : Int)) (by kernel_rfl) (by kernel_rfl) (fun h20154 => ?_) (fun h20154 => ?_)
            · rw [if_pos h20154] at H
              refine EW.skip (by kernel_rfl) ?_
              refine EQ.code ?_
              refine EW.seq (x := C7.r.r.r.r.l.r.l.l.r.l) (y := C7.r.r.r.r.l.r.l.l.r.r) (by kernel_rfl) ?_
              refine EW.block (x := C7.r.r.r.r.l.r.l.l.r.l.l) (id := 1) (by kernel_rfl) ?_
              refine EW.region (id := 9) (ops := C7.r.r.r.r.l.r.l.l.r.l.l.ops) (by kernel_rfl) ?_
              refine EL.quick 3 [0, 1, 2, 3, 4, 5, 6, 16, 41, 42, 43] [(0, .slice A13 l12.length C14), (1, .slice A16 l15.length C17), (2, .int .i64 a18), (3, .int .i64 a19), (4, .int .i64 a20), (5, .int .i64 a21), (6, .int .u8 a22), (16, .int .i64 x20125), (41, .slice A20122 x20121.length C20123), (42, .slice A16 l15.length C17), (43, .int .i64 x20125)] (by kernel_rfl) ?_
              obtain ⟨h20163, H⟩ := ite_in H
              obtain ⟨ad20164, rfl⟩ := St.rd_some hS (Rd.ro 1 rfl) h20163 h20154
              refine EL.of (EO.Y (YO.idx 22 1 ad20164 l15.length C17 .i64 x20125 44 (by kernel_rfl) (by kernel_rfl) (by kernel_rfl) (by kernel_rfl) h20163 h20154) ?_)
              refine EL.of (EO.Y (YO.loadEl hS (Kd.int .u8) ad20164 C17 l15 (Rd.ro 1 rfl) 0 (encI .u8) encI_of x20125 h20163 h20154 5 1 0 1 rfl (.int .u8 (l15.getD x20125.toNat 0)) 45 (by kernel_rfl) (by kernel_rfl) (by kernel_rfl) (by kernel_rfl)) ?_)
              refine EL.quick 2 [0, 1, 2, 3, 4, 5, 6, 16, 41, 47] [(0, .slice A13 l12.length C14), (1, .slice (some ad20164) l15.length C17), (2, .int .i64 a18), (3, .int .i64 a19), (4, .int .i64 a20), (5, .int .i64 a21), (6, .int .u8 a22), (16, .int .i64 x20125), (41, .slice A20122 x20121.length C20123), (47, .int .i64 (IntKind.i64.wrap (Int.tmod (l15.getD x20125.toNat 0) 5)))] (by kernel_rfl) ?_
              obtain ⟨l20166, hl20166, H⟩ := lt_out H
              refine EL.of (EO.lit hS (Kd.int .i64) 3 24 1 #[(0, .int .i64 (IntKind.i64.wrap (Int.tmod (l15.getD x20125.toNat 0) 5)))] [.int .i64 (IntKind.i64.wrap (Int.tmod (l15.getD x20125.toNat 0) 5))] l20166 48 (by kernel_rfl) (by kernel_rfl) (by kernel_rfl) (fun _ => (by kernel_rfl)) (by rw [hl20166]; rfl) (by kernel_rfl) (fun w G hr => (by rw [hl20166]; exact ⟨[.int .i64 (IntKind.i64.wrap (Int.tmod (l15.getD x20125.toNat 0) 5))], [], rfl, rfl, rfl⟩)) ?_)
              intro g20165 w hS
              obtain ⟨h20167, H⟩ := ite_in H
              obtain ⟨l20168, hl20168, H⟩ := lt_out H
              refine EL.of (EO.append hS 24 24 3 8 1 (Kd.int .i64) A20122 C20123 x20121 rfl (some ⟨g20165, 0, none⟩) 1 l20166 (Rd.own 0 3 rfl) l20168 hl20168 (fun A20169 C20170 => Ass.own 3 (Kd.int .i64) (some ⟨g20165, 0, none⟩) 1 l20166 :: Ass.own 3 (Kd.int .i64) A20169 C20170 l20168 :: os) 49 (by kernel_rfl) (by kernel_rfl) (by kernel_rfl) (by kernel_rfl) h20167 (fun _ _ => rfl) ?_)
              intro A20169 C20170 w hS
              refine EL.quick 1 [0, 1, 2, 3, 4, 5, 6, 15, 16] [(0, .slice A13 l12.length C14), (1, .slice (some ad20164) l15.length C17), (2, .int .i64 a18), (3, .int .i64 a19), (4, .int .i64 a20), (5, .int .i64 a21), (6, .int .u8 a22), (15, .slice A20169 l20168.length C20170), (16, .int .i64 x20125)] (by kernel_rfl) ?_
              refine EL.done (by kernel_rfl) ?_
              refine EQ.pop ?_
              refine EQ.code ?_
              refine EW.region (id := 8) (ops := C7.r.r.r.r.l.r.l.l.r.r.ops) (by kernel_rfl) ?_
              refine EL.quick 3 [0, 1, 2, 3, 4, 5, 6, 15, 16] [(0, .slice A13 l12.length C14), (1, .slice (some ad20164) l15.length C17), (2, .int .i64 a18), (3, .int .i64 a19), (4, .int .i64 a20), (5, .int .i64 a21), (6, .int .u8 a22), (15, .slice A20169 l20168.length C20170), (16, .int .i64 (IntKind.i64.wrap (x20125 + 1)))] (by kernel_rfl) ?_
              refine EL.done (by kernel_rfl) ?_
              refine EQ.to ?_
              refine EQ.keep [0, 1, 2, 3, 4, 5, 6, 15, 16] [(0, .slice A13 l12.length C14), (1, .slice (some ad20164) l15.length C17), (2, .int .i64 a18), (3, .int .i64 a19), (4, .int .i64 a20), (5, .int .i64 a21), (6, .int .u8 a22), (15, .slice A20169 l20168.length C20170), (16, .int .i64 (IntKind.i64.wrap (x20125 + 1)))] (by kernel_rfl) ?_
              exact fun a ha => ⟨n, Nat.lt_succ_self n, l20168, IntKind.i64.wrap (x20125 + 1), A20169, C20170, ha, (hS.re [1] [1] rfl (sub_cons 0 rfl (sub_cons 1 rfl (sub_tail (sub_tail (sub_self)))))), H⟩
            · rw [if_neg h20154] at H
              refine EW.exit (id := 0) (by kernel_rfl) ?_
              refine EQ.exitCode ?_
              refine EQ.exitTo ?_
              refine EQ.exitHere ?_
              refine EQ.to ?_
              refine EQ.keep [0, 2, 3, 4, 5, 6, 15] [(0, .slice A13 l12.length C14), (2, .int .i64 a18), (3, .int .i64 a19), (4, .int .i64 a20), (5, .int .i64 a21), (6, .int .u8 a22), (15, .slice A20122 x20121.length C20123)] (by kernel_rfl) ?_
              exact fun a ha => ⟨x20121, A20122, C20123, ha, (hS.re [0] [] rfl (sub_cons 0 rfl (sub_cons 1 rfl (sub_tail (sub_tail (sub_self)))))), H⟩
        · obtain ⟨x20057, A20058, C20059, ha, hS, H⟩ := hI
          rw [hj20062] at H
          (try dsimp only at H)
          refine EW.at ?_ a ha
          clear ha a
          refine EW.seq (x := C7.r.r.r.r.r.l) (y := C7.r.r.r.r.r.r) (by kernel_rfl) ?_
          refine EW.region (id := 10) (ops := C7.r.r.r.r.r.l.ops) (by kernel_rfl) ?_
          refine EL.quick 8 [0, 2, 3, 6, 15, 17, 18] [(0, .slice A13 l12.length C14), (2, .int .i64 a18), (3, .int .i64 a19), (6, .int .u8 a22), (15, .slice A20058 x20057.length C20059), (17, .int .i64 (mn (mx a20 (-5)) 1048576)), (18, .int .i64 (mn (mx a21 (-5)) 1048576))] (by kernel_rfl) ?_
          refine EL.done (by kernel_rfl) ?_
          refine EQ.code ?_
          refine EW.seq (x := C7.r.r.r.r.r.r.l) (y := C7.r.r.r.r.r.r.r) (by kernel_rfl) ?_
          refine EW.seq (x := C7.r.r.r.r.r.r.l.l) (y := C7.r.r.r.r.r.r.l.r) (by kernel_rfl) ?_
          refine EW.region (id := 11) (ops := C7.r.r.r.r.r.r.l.l.ops) (by kernel_rfl) ?_
          refine EL.quick 2 [2, 3, 6, 17, 18, 56, 57] [(2, .int .i64 a18), (3, .int .i64 a19), (6, .int .u8 a22), (17, .int .i64 (mn (mx a20 (-5)) 1048576)), (18, .int .i64 (mn (mx a21 (-5)) 1048576)), (56, .slice A13 l12.length C14), (57, .slice A20058 x20057.length C20059)] (by kernel_rfl) ?_
          have hS := St.fr hS 0 rfl
          obtain ⟨l20174, hl20174, H⟩ := lt_out H
          refine EL.of (EO.lit hS (Kd.slice (Kd.int .i64)) 24 51 2 #[(0, .slice A13 l12.length C14), (1, .slice A20058 x20057.length C20059)] [.slice A13 l12.length C14, .slice A20058 x20057.length C20059] l20174 58 (by kernel_rfl) (by kernel_rfl) (by kernel_rfl) (fun _ => (by kernel_rfl)) (by rw [hl20174]; rfl) (by kernel_rfl) (fun w G hr => (by rw [hl20174]; exact ⟨[.slice A13 l12.length C14], [.slice A20058 x20057.length C20059], rfl, (hr _ (List.mem_of_getElem? (i := 1) rfl)), ⟨[.slice A20058 x20057.length C20059], [], rfl, (hr _ (List.mem_of_getElem? (i := 0) rfl)), rfl⟩⟩)) ?_)
          intro g20173 w hS
          refine EL.quick 2 [2, 3, 6, 17, 18, 58, 59, 60] [(2, .int .i64 a18), (3, .int .i64 a19), (6, .int .u8 a22), (17, .int .i64 (mn (mx a20 (-5)) 1048576)), (18, .int .i64 (mn (mx a21 (-5)) 1048576)), (58, .slice (some ⟨g20173, 0, none⟩) l20174.length 2), (59, .int .i64 (l20174.length : Int)), (60, .int .i64 0)] (by kernel_rfl) ?_
          refine EL.done (by kernel_rfl) ?_
          refine EQ.code ?_
          refine EW.block (x := C7.r.r.r.r.r.r.l.r.l) (id := 2) (by kernel_rfl) ?_
          refine EW.loop (x := C7.r.r.r.r.r.r.l.r.l.l) (fun n a w => ∃ x23240 : Int, Sat 159 [(2, .int .i64 a18), (3, .int .i64 a19), (6, .int .u8 a22), (17, .int .i64 (mn (mx a20 (-5)) 1048576)), (18, .int .i64 (mn (mx a21 (-5)) 1048576)), (58, .slice (some ⟨g20173, 0, none⟩) l20174.length 2), (59, .int .i64 (l20174.length : Int)), (60, .int .i64 x23240)] a ∧ St B w (Ass.own 24 (Kd.slice (Kd.int .i64)) (some ⟨g20173, 0, none⟩) 2 l20174 :: os) (Ro.sl (Kd.int .i64) A20058 C20059 x20057 :: Ro.sl (Kd.int .i64) A13 C14 l12 :: Ro.sl (Kd.int .u8) A16 C17 l15 :: rs) ∧ confidantlaw18_TableTells.l1 K l20174 a19 a22 a20 a21 a18 n x23240 = some x19818) K (by kernel_rfl) ?_ (fun n a w hI => ?_)
          · refine EQ.keep [2, 3, 6, 17, 18, 58, 59, 60] [(2, .int .i64 a18), (3, .int .i64 a19), (6, .int .u8 a22), (17, .int .i64 (mn (mx a20 (-5)) 1048576)), (18, .int .i64 (mn (mx a21 (-5)) 1048576)), (58, .slice (some ⟨g20173, 0, none⟩) l20174.length 2), (59, .int .i64 (l20174.length : Int)), (60, .int .i64 0)] (by kernel_rfl) ?_
            exact fun a ha => ⟨0, ha, (hS.re [0] [] rfl (sub_cons 0 rfl (sub_cons 1 rfl (sub_cons 2 rfl (sub_tail (sub_tail (sub_tail (sub_self)))))))), H⟩
          · obtain ⟨x23240, ha, hS, H⟩ := hI
            obtain _ | n := n
            · simp [confidantlaw18_TableTells.l1] at H
            rw [confidantlaw18_TableTells.l1.eq_2] at H
            refine EW.at ?_ a ha
            clear ha a
            refine EW.seq (x := C7.r.r.r.r.r.r.l.r.l.l.l) (y := C7.r.r.r.r.r.r.l.r.l.l.r) (by kernel_rfl) ?_
            refine EW.region (id := 12) (ops := C7.r.r.r.r.r.r.l.r.l.l.l.ops) (by kernel_rfl) ?_
            refine EL.quick 1 [2, 3, 6, 17, 18, 58, 59, 60, 61] [(2, .int .i64 a18), (3, .int .i64 a19), (6, .int .u8 a22), (17, .int .i64 (mn (mx a20 (-5)) 1048576)), (18, .int .i64 (mn (mx a21 (-5)) 1048576)), (58, .slice (some ⟨g20173, 0, none⟩) l20174.length 2), (59, .int .i64 (l20174.length : Int)), (60, .int .i64 x23240), (61, .bool (decide (x23240 < (l20174.length : Int))))] (by kernel_rfl) ?_
            refine EL.done (by kernel_rfl) ?_
            refine EQ.code ?_
            refine EW.seq (x := C7.r.r.r.r.r.r.l.r.l.l.r.l) (y := C7.r.r.r.r.r.r.l.r.l.l.r.r) (by kernel_rfl) ?_
            refine EW.condP (o := (.tmp 61)) (x := C7.r.r.r.r.r.r.l.r.l.l.r.l.l) (y := C7.r.r.r.r.r.r.l.r.l.l.r.l.r) (x23240 < (l20174.length : Int)) (by kernel_rfl) (by kernel_rfl) (fun h26313 => ?_) (fun h26313 => ?_)
            · rw [if_pos h26313] at H
              refine EW.skip (by kernel_rfl) ?_
              refine EQ.code ?_
              obtain ⟨j28360, hj28360, H⟩ := lt_out H
              refine EW.cut (x := C7.r.r.r.r.r.r.l.r.l.l.r.r.l) (y := C7.r.r.r.r.r.r.l.r.l.l.r.r.r) (fun a w => ∃ x28354 : List Int, ∃ x28357 : List Int, ∃ A28355 : Option Addr, ∃ C28356 : Nat, ∃ A28358 : Option Addr, ∃ C28359 : Nat, Sat 159 [(2, .int .i64 a18), (3, .int .i64 a19), (6, .int .u8 a22), (17, .int .i64 (mn (mx a20 (-5)) 1048576)), (18, .int .i64 (mn (mx a21 (-5)) 1048576)), (58, .slice (some ⟨g20173, 0, none⟩) l20174.length 2), (59, .int .i64 (l20174.length : Int)), (60, .int .i64 x23240)] a ∧ St B w (Ass.own 3 (Kd.int .i64) A28355 C28356 x28354 :: Ass.own 3 (Kd.int .i64) A28358 C28359 x28357 :: Ass.own 24 (Kd.slice (Kd.int .i64)) (some ⟨g20173, 0, none⟩) 2 l20174 :: os) (Ro.sl (Kd.int .i64) A20058 C20059 x20057 :: Ro.sl (Kd.int .i64) A13 C14 l12 :: Ro.sl (Kd.int .u8) A16 C17 l15 :: rs) ∧ j28360 x28354 x28357 = some x19818) (by kernel_rfl) ?_ (fun a w hI => ?_)
              · refine EW.block (x := C7.r.r.r.r.r.r.l.r.l.l.r.r.l.l) (id := 3) (by kernel_rfl) ?_
                refine EW.seq (x := C7.r.r.r.r.r.r.l.r.l.l.r.r.l.l.l) (y := C7.r.r.r.r.r.r.l.r.l.l.r.r.l.l.r) (by kernel_rfl) ?_
                refine EW.region (id := 13) (ops := C7.r.r.r.r.r.r.l.r.l.l.r.r.l.l.l.ops) (by kernel_rfl) ?_
                obtain ⟨h28364, H⟩ := ite_in H
                refine EL.of (EO.Y (YO.idx 51 1 ⟨g20173, 0, none⟩ l20174.length 2 .i64 x23240 62 (by kernel_rfl) (by kernel_rfl) (by kernel_rfl) (by kernel_rfl) h28364 h26313) ?_)
                refine EL.of (EO.loadSl hS (Kd.int .i64) ⟨g20173, 0, none⟩ 2 l20174 (Rd.own 0 24 rfl) x23240 h28364 h26313 24 63 (by kernel_rfl) (by kernel_rfl) (by kernel_rfl) (by kernel_rfl) ?_)
                intro A28365 C28366 hS
                refine EL.quick 1 [2, 3, 6, 17, 18, 20, 58, 59, 60] [(2, .int .i64 a18), (3, .int .i64 a19), (6, .int .u8 a22), (17, .int .i64 (mn (mx a20 (-5)) 1048576)), (18, .int .i64 (mn (mx a21 (-5)) 1048576)), (20, .slice A28365 (l20174.getD x23240.toNat []).length C28366), (58, .slice (some ⟨g20173, 0, none⟩) l20174.length 2), (59, .int .i64 (l20174.length : Int)), (60, .int .i64 x23240)] (by kernel_rfl) ?_
                refine EL.done (by kernel_rfl) ?_
                refine EQ.code ?_
                obtain ⟨j28776, hj28776, H⟩ := lt_out H
                refine EW.cut (x := C7.r.r.r.r.r.r.l.r.l.l.r.r.l.l.r.l) (y := C7.r.r.r.r.r.r.l.r.l.l.r.r.l.l.r.r) (fun a w => ∃ x28773 : List Int, ∃ A28774 : Option Addr, ∃ C28775 : Nat, Sat 159 [(2, .int .i64 a18), (3, .int .i64 a19), (6, .int .u8 a22), (17, .int .i64 (mn (mx a20 (-5)) 1048576)), (18, .int .i64 (mn (mx a21 (-5)) 1048576)), (20, .slice A28365 (l20174.getD x23240.toNat []).length C28366), (58, .slice (some ⟨g20173, 0, none⟩) l20174.length 2), (59, .int .i64 (l20174.length : Int)), (60, .int .i64 x23240)] a ∧ St B w (Ass.own 3 (Kd.int .i64) A28774 C28775 x28773 :: Ass.own 24 (Kd.slice (Kd.int .i64)) (some ⟨g20173, 0, none⟩) 2 l20174 :: os) (Ro.sl (Kd.int .i64) A28365 C28366 (l20174.getD x23240.toNat []) :: Ro.sl (Kd.int .i64) A20058 C20059 x20057 :: Ro.sl (Kd.int .i64) A13 C14 l12 :: Ro.sl (Kd.int .u8) A16 C17 l15 :: rs) ∧ j28776 x28773 = some x19818) (by kernel_rfl) ?_ (fun a w hI => ?_)
                · refine EW.seq (x := C7.r.r.r.r.r.r.l.r.l.l.r.r.l.l.r.l.l) (y := C7.r.r.r.r.r.r.l.r.l.l.r.r.l.l.r.l.r) (by kernel_rfl) ?_
                  refine EW.region (id := 14) (ops := C7.r.r.r.r.r.r.l.r.l.l.r.r.l.l.r.l.l.ops) (by kernel_rfl) ?_
                  refine EL.quick 4 [2, 3, 6, 17, 18, 20, 58, 59, 60, 64, 67] [(2, .int .i64 a18), (3, .int .i64 a19), (6, .int .u8 a22), (17, .int .i64 (mn (mx a20 (-5)) 1048576)), (18, .int .i64 (mn (mx a21 (-5)) 1048576)), (20, .slice A28365 (l20174.getD x23240.toNat []).length C28366), (58, .slice (some ⟨g20173, 0, none⟩) l20174.length 2), (59, .int .i64 (l20174.length : Int)), (60, .int .i64 x23240), (64, .int .i64 a18), (67, .int .i64 (IntKind.i64.wrap (Int.tmod a22 7)))] (by kernel_rfl) ?_
                  obtain ⟨l28780, hl28780, H⟩ := lt_out H
                  refine EL.of (EO.lit hS (Kd.int .i64) 3 24 2 #[(0, .int .i64 a18), (1, .int .i64 (IntKind.i64.wrap (Int.tmod a22 7)))] [.int .i64 a18, .int .i64 (IntKind.i64.wrap (Int.tmod a22 7))] l28780 68 (by kernel_rfl) (by kernel_rfl) (by kernel_rfl) (fun _ => (by kernel_rfl)) (by rw [hl28780]; rfl) (by kernel_rfl) (fun w G hr => (by rw [hl28780]; exact ⟨[.int .i64 a18], [.int .i64 (IntKind.i64.wrap (Int.tmod a22 7))], rfl, rfl, ⟨[.int .i64 (IntKind.i64.wrap (Int.tmod a22 7))], [], rfl, rfl, rfl⟩⟩)) ?_)
                  intro g28779 w hS
                  refine EL.quick 2 [2, 3, 6, 17, 18, 20, 58, 59, 60, 68, 69, 70] [(2, .int .i64 a18), (3, .int .i64 a19), (6, .int .u8 a22), (17, .int .i64 (mn (mx a20 (-5)) 1048576)), (18, .int .i64 (mn (mx a21 (-5)) 1048576)), (20, .slice A28365 (l20174.getD x23240.toNat []).length C28366), (58, .slice (some ⟨g20173, 0, none⟩) l20174.length 2), (59, .int .i64 (l20174.length : Int)), (60, .int .i64 x23240), (68, .slice (some ⟨g28779, 0, none⟩) l28780.length 2), (69, .int .i64 (l28780.length : Int)), (70, .int .i64 0)] (by kernel_rfl) ?_
                  refine EL.done (by kernel_rfl) ?_
                  refine EQ.code ?_
                  refine EW.block (x := C7.r.r.r.r.r.r.l.r.l.l.r.r.l.l.r.l.r.l) (id := 4) (by kernel_rfl) ?_
                  refine EW.loop (x := C7.r.r.r.r.r.r.l.r.l.l.r.r.l.l.r.l.r.l.l) (fun n a w => ∃ x28845 : Int, Sat 159 [(2, .int .i64 a18), (3, .int .i64 a19), (6, .int .u8 a22), (17, .int .i64 (mn (mx a20 (-5)) 1048576)), (18, .int .i64 (mn (mx a21 (-5)) 1048576)), (20, .slice A28365 (l20174.getD x23240.toNat []).length C28366), (58, .slice (some ⟨g20173, 0, none⟩) l20174.length 2), (59, .int .i64 (l20174.length : Int)), (60, .int .i64 x23240), (68, .slice (some ⟨g28779, 0, none⟩) l28780.length 2), (69, .int .i64 (l28780.length : Int)), (70, .int .i64 x28845)] a ∧ St B w (Ass.own 3 (Kd.int .i64) (some ⟨g28779, 0, none⟩) 2 l28780 :: Ass.own 24 (Kd.slice (Kd.int .i64)) (some ⟨g20173, 0, none⟩) 2 l20174 :: os) (Ro.sl (Kd.int .i64) A28365 C28366 (l20174.getD x23240.toNat []) :: Ro.sl (Kd.int .i64) A20058 C20059 x20057 :: Ro.sl (Kd.int .i64) A13 C14 l12 :: Ro.sl (Kd.int .u8) A16 C17 l15 :: rs) ∧ confidantlaw18_TableTells.l2 K l28780 l20174 x23240 j28776 n x28845 = some x19818) K (by kernel_rfl) ?_ (fun n a w hI => ?_)
                  · refine EQ.keep [2, 3, 6, 17, 18, 20, 58, 59, 60, 68, 69, 70] [(2, .int .i64 a18), (3, .int .i64 a19), (6, .int .u8 a22), (17, .int .i64 (mn (mx a20 (-5)) 1048576)), (18, .int .i64 (mn (mx a21 (-5)) 1048576)), (20, .slice A28365 (l20174.getD x23240.toNat []).length C28366), (58, .slice (some ⟨g20173, 0, none⟩) l20174.length 2), (59, .int .i64 (l20174.length : Int)), (60, .int .i64 x23240), (68, .slice (some ⟨g28779, 0, none⟩) l28780.length 2), (69, .int .i64 (l28780.length : Int)), (70, .int .i64 0)] (by kernel_rfl) ?_
                    exact fun a ha => ⟨0, ha, (hS.re [1, 1] [] rfl (sub_cons 0 rfl (sub_cons 1 rfl (sub_cons 2 rfl (sub_cons 3 rfl (sub_tail (sub_tail (sub_tail (sub_tail (sub_self)))))))))), H⟩
                  · obtain ⟨x28845, ha, hS, H⟩ := hI
                    obtain _ | n := n
                    · simp [confidantlaw18_TableTells.l2] at H
                    rw [confidantlaw18_TableTells.l2.eq_2] at H
                    refine EW.at ?_ a ha
                    clear ha a
                    refine EW.seq (x := C7.r.r.r.r.r.r.l.r.l.l.r.r.l.l.r.l.r.l.l.l) (y := C7.r.r.r.r.r.r.l.r.l.l.r.r.l.l.r.l.r.l.l.r) (by kernel_rfl) ?_
                    refine EW.region (id := 15) (ops := C7.r.r.r.r.r.r.l.r.l.l.r.r.l.l.r.l.r.l.l.l.ops) (by kernel_rfl) ?_
                    refine EL.quick 1 [2, 3, 6, 17, 18, 20, 58, 59, 60, 68, 69, 70, 71] [(2, .int .i64 a18), (3, .int .i64 a19), (6, .int .u8 a22), (17, .int .i64 (mn (mx a20 (-5)) 1048576)), (18, .int .i64 (mn (mx a21 (-5)) 1048576)), (20, .slice A28365 (l20174.getD x23240.toNat []).length C28366), (58, .slice (some ⟨g20173, 0, none⟩) l20174.length 2), (59, .int .i64 (l20174.length : Int)), (60, .int .i64 x23240), (68, .slice (some ⟨g28779, 0, none⟩) l28780.length 2), (69, .int .i64 (l28780.length : Int)), (70, .int .i64 x28845), (71, .bool (decide (x28845 < (l28780.length : Int))))] (by kernel_rfl) ?_
                    refine EL.done (by kernel_rfl) ?_
                    refine EQ.code ?_
                    refine EW.seq (x := C7.r.r.r.r.r.r.l.r.l.l.r.r.l.l.r.l.r.l.l.r.l) (y := C7.r.r.r.r.r.r.l.r.l.l.r.r.l.l.r.l.r.l.l.r.r) (by kernel_rfl) ?_
                    refine EW.condP (o := (.tmp 71)) (x := C7.r.r.r.r.r.r.l.r.l.l.r.r.l.l.r.l.r.l.l.r.l.l) (y := C7.r.r.r.r.r.r.l.r.l.l.r.r.l.l.r.l.r.l.l.r.l.r) (x28845 < (l28780.length : Int)) (by kernel_rfl) (by kernel_rfl) (fun h28915 => ?_) (fun h28915 => ?_)
                    · rw [if_pos h28915] at H
                      refine EW.skip (by kernel_rfl) ?_
                      refine EQ.code ?_
                      refine EW.seq (x := C7.r.r.r.r.r.r.l.r.l.l.r.r.l.l.r.l.r.l.l.r.r.l) (y := C7.r.r.r.r.r.r.l.r.l.l.r.r.l.l.r.l.r.l.l.r.r.r) (by kernel_rfl) ?_
                      refine EW.block (x := C7.r.r.r.r.r.r.l.r.l.l.r.r.l.l.r.l.r.l.l.r.r.l.l) (id := 5) (by kernel_rfl) ?_
                      refine EW.seq (x := C7.r.r.r.r.r.r.l.r.l.l.r.r.l.l.r.l.r.l.l.r.r.l.l.l) (y := C7.r.r.r.r.r.r.l.r.l.l.r.r.l.l.r.l.r.l.l.r.r.l.l.r) (by kernel_rfl) ?_
                      refine EW.region (id := 16) (ops := C7.r.r.r.r.r.r.l.r.l.l.r.r.l.l.r.l.r.l.l.r.r.l.l.l.ops) (by kernel_rfl) ?_
                      obtain ⟨h28949, H⟩ := ite_in H
                      refine EL.of (EO.Y (YO.idx 24 1 ⟨g28779, 0, none⟩ l28780.length 2 .i64 x28845 72 (by kernel_rfl) (by kernel_rfl) (by kernel_rfl) (by kernel_rfl) h28949 h28915) ?_)
                      refine EL.of (EO.Y (YO.loadEl hS (Kd.int .i64) ⟨g28779, 0, none⟩ 2 l28780 (Rd.own 0 3 rfl) 0 (encI .i64) encI_of x28845 h28949 h28915 3 1 0 1 rfl (.int .i64 (l28780.getD x28845.toNat 0)) 73 (by kernel_rfl) (by kernel_rfl) (by kernel_rfl) (by kernel_rfl)) ?_)
                      refine EL.quick 1 [2, 3, 6, 17, 18, 20, 22, 58, 59, 60, 68, 69, 70] [(2, .int .i64 a18), (3, .int .i64 a19), (6, .int .u8 a22), (17, .int .i64 (mn (mx a20 (-5)) 1048576)), (18, .int .i64 (mn (mx a21 (-5)) 1048576)), (20, .slice A28365 (l20174.getD x23240.toNat []).length C28366), (22, .int .i64 (l28780.getD x28845.toNat 0)), (58, .slice (some ⟨g20173, 0, none⟩) l20174.length 2), (59, .int .i64 (l20174.length : Int)), (60, .int .i64 x23240), (68, .slice (some ⟨g28779, 0, none⟩) l28780.length 2), (69, .int .i64 (l28780.length : Int)), (70, .int .i64 x28845)] (by kernel_rfl) ?_
                      refine EL.done (by kernel_rfl) ?_
                      refine EQ.code ?_
                      obtain ⟨j28969, hj28969, H⟩ := lt_out H
                      refine EW.cut (x := C7.r.r.r.r.r.r.l.r.l.l.r.r.l.l.r.l.r.l.l.r.r.l.l.r.l) (y := C7.r.r.r.r.r.r.l.r.l.l.r.r.l.l.r.l.r.l.l.r.r.l.l.r.r) (fun a w => ∃ x28968 : Bool, Sat 159 [(2, .int .i64 a18), (3, .int .i64 a19), (6, .int .u8 a22), (17, .int .i64 (mn (mx a20 (-5)) 1048576)), (18, .int .i64 (mn (mx a21 (-5)) 1048576)), (20, .slice A28365 (l20174.getD x23240.toNat []).length C28366), (58, .slice (some ⟨g20173, 0, none⟩) l20174.length 2), (59, .int .i64 (l20174.length : Int)), (60, .int .i64 x23240), (68, .slice (some ⟨g28779, 0, none⟩) l28780.length 2), (69, .int .i64 (l28780.length : Int)), (70, .int .i64 x28845), (89, .bool (x28968))] a ∧ St B w (Ass.own 3 (Kd.int .i64) (some ⟨g28779, 0, none⟩) 2 l28780 :: Ass.own 24 (Kd.slice (Kd.int .i64)) (some ⟨g20173, 0, none⟩) 2 l20174 :: os) (Ro.sl (Kd.int .i64) A28365 C28366 (l20174.getD x23240.toNat []) :: Ro.sl (Kd.int .i64) A28365 C28366 (l20174.getD x23240.toNat []) :: Ro.sl (Kd.int .i64) A28365 C28366 (l20174.getD x23240.toNat []) :: Ro.sl (Kd.int .i64) A28365 C28366 (l20174.getD x23240.toNat []) :: Ro.sl (Kd.int .i64) A28365 C28366 (l20174.getD x23240.toNat []) :: Ro.sl (Kd.int .i64) A20058 C20059 x20057 :: Ro.sl (Kd.int .i64) A13 C14 l12 :: Ro.sl (Kd.int .u8) A16 C17 l15 :: rs) ∧ j28969 x28968 = some x19818) (by kernel_rfl) ?_ (fun a w hI => ?_)
                      · refine EW.region (id := 17) (ops := C7.r.r.r.r.r.r.l.r.l.l.r.r.l.l.r.l.r.l.l.r.r.l.l.r.l.ops) (by kernel_rfl) ?_
                        refine EL.quick 2 [2, 3, 6, 17, 18, 20, 22, 58, 59, 60, 68, 69, 70, 74, 75] [(2, .int .i64 a18), (3, .int .i64 a19), (6, .int .u8 a22), (17, .int .i64 (mn (mx a20 (-5)) 1048576)), (18, .int .i64 (mn (mx a21 (-5)) 1048576)), (20, .slice A28365 (l20174.getD x23240.toNat []).length C28366), (22, .int .i64 (l28780.getD x28845.toNat 0)), (58, .slice (some ⟨g20173, 0, none⟩) l20174.length 2), (59, .int .i64 (l20174.length : Int)), (60, .int .i64 x23240), (68, .slice (some ⟨g28779, 0, none⟩) l28780.length 2), (69, .int .i64 (l28780.length : Int)), (70, .int .i64 x28845), (74, .slice A28365 (l20174.getD x23240.toNat []).length C28366), (75, .int .i64 (l28780.getD x28845.toNat 0))] (by kernel_rfl) ?_
                        have hS : St B _ (Ass.own 3 (Kd.int .i64) (some ⟨g28779, 0, none⟩) 2 l28780 :: Ass.own 24 (Kd.slice (Kd.int .i64)) (some ⟨g20173, 0, none⟩) 2 l20174 :: os) (Ro.sl (Kd.int .i64) A28365 C28366 (l20174.getD x23240.toNat []) :: Ro.sl (Kd.int .i64) A28365 C28366 (l20174.getD x23240.toNat []) :: Ro.sl (Kd.int .i64) A20058 C20059 x20057 :: Ro.sl (Kd.int .i64) A13 C14 l12 :: Ro.sl (Kd.int .u8) A16 C17 l15 :: rs) := hS.re [] [] rfl (sub_cons 0 rfl sub_self)
                        obtain ⟨t28970, hc28971, H⟩ := b1_out H
                        refine EL.of (EO.callD 32 [.slice A28365 (l20174.getD x23240.toNat []).length C28366, .int .i64 (l28780.getD x28845.toNat 0)] _ 76 (by kernel_rfl) (by kernel_rfl) (by kernel_rfl) (table_Right.calls hc28971 hS) ?_)
                        rintro v w ⟨rfl, hS⟩
                        refine EL.quick 2 [2, 3, 6, 17, 18, 20, 22, 58, 59, 60, 68, 69, 70, 76, 77, 78] [(2, .int .i64 a18), (3, .int .i64 a19), (6, .int .u8 a22), (17, .int .i64 (mn (mx a20 (-5)) 1048576)), (18, .int .i64 (mn (mx a21 (-5)) 1048576)), (20, .slice A28365 (l20174.getD x23240.toNat []).length C28366), (22, .int .i64 (l28780.getD x28845.toNat 0)), (58, .slice (some ⟨g20173, 0, none⟩) l20174.length 2), (59, .int .i64 (l20174.length : Int)), (60, .int .i64 x23240), (68, .slice (some ⟨g28779, 0, none⟩) l28780.length 2), (69, .int .i64 (l28780.length : Int)), (70, .int .i64 x28845), (76, .bool (t28970)), (77, .slice A28365 (l20174.getD x23240.toNat []).length C28366), (78, .int .i64 (l28780.getD x28845.toNat 0))] (by kernel_rfl) ?_
                        have hS : St B _ (Ass.own 3 (Kd.int .i64) (some ⟨g28779, 0, none⟩) 2 l28780 :: Ass.own 24 (Kd.slice (Kd.int .i64)) (some ⟨g20173, 0, none⟩) 2 l20174 :: os) (Ro.sl (Kd.int .i64) A28365 C28366 (l20174.getD x23240.toNat []) :: Ro.sl (Kd.int .i64) A28365 C28366 (l20174.getD x23240.toNat []) :: Ro.sl (Kd.int .i64) A28365 C28366 (l20174.getD x23240.toNat []) :: Ro.sl (Kd.int .i64) A20058 C20059 x20057 :: Ro.sl (Kd.int .i64) A13 C14 l12 :: Ro.sl (Kd.int .u8) A16 C17 l15 :: rs) := hS.re [] [] rfl (sub_cons 0 rfl sub_self)
                        obtain ⟨t28972, hc28973, H⟩ := b1_out H
                        refine EL.of (EO.callD 33 [.slice A28365 (l20174.getD x23240.toNat []).length C28366, .int .i64 (l28780.getD x28845.toNat 0)] _ 79 (by kernel_rfl) (by kernel_rfl) (by kernel_rfl) (confidantref15_TableRight.calls hc28973 hS) ?_)
                        rintro v w ⟨rfl, hS⟩
                        refine EL.quick 2 [2, 3, 6, 17, 18, 20, 22, 58, 59, 60, 68, 69, 70, 81] [(2, .int .i64 a18), (3, .int .i64 a19), (6, .int .u8 a22), (17, .int .i64 (mn (mx a20 (-5)) 1048576)), (18, .int .i64 (mn (mx a21 (-5)) 1048576)), (20, .slice A28365 (l20174.getD x23240.toNat []).length C28366), (22, .int .i64 (l28780.getD x28845.toNat 0)), (58, .slice (some ⟨g20173, 0, none⟩) l20174.length 2), (59, .int .i64 (l20174.length : Int)), (60, .int .i64 x23240), (68, .slice (some ⟨g28779, 0, none⟩) l28780.length 2), (69, .int .i64 (l28780.length : Int)), (70, .int .i64 x28845), (81, .bool (!((t28970 == t28972))))] (by kernel_rfl) ?_
                        by_cases h28974 : (t28970 == t28972) = true
                        · rw [if_pos h28974] at H
                          refine EL.keep [2, 3, 6, 17, 18, 20, 22, 58, 59, 60, 68, 69, 70, 81] [(2, .int .i64 a18), (3, .int .i64 a19), (6, .int .u8 a22), (17, .int .i64 (mn (mx a20 (-5)) 1048576)), (18, .int .i64 (mn (mx a21 (-5)) 1048576)), (20, .slice A28365 (l20174.getD x23240.toNat []).length C28366), (22, .int .i64 (l28780.getD x28845.toNat 0)), (58, .slice (some ⟨g20173, 0, none⟩) l20174.length 2), (59, .int .i64 (l20174.length : Int)), (60, .int .i64 x23240), (68, .slice (some ⟨g28779, 0, none⟩) l28780.length 2), (69, .int .i64 (l28780.length : Int)), (70, .int .i64 x28845), (81, .bool (!((t28970 == t28972))))] (by kernel_rfl) ?_
                          refine EL.as' [(2, .int .i64 a18), (3, .int .i64 a19), (6, .int .u8 a22), (17, .int .i64 (mn (mx a20 (-5)) 1048576)), (18, .int .i64 (mn (mx a21 (-5)) 1048576)), (20, .slice A28365 (l20174.getD x23240.toNat []).length C28366), (22, .int .i64 (l28780.getD x28845.toNat 0)), (58, .slice (some ⟨g20173, 0, none⟩) l20174.length 2), (59, .int .i64 (l20174.length : Int)), (60, .int .i64 x23240), (68, .slice (some ⟨g28779, 0, none⟩) l28780.length 2), (69, .int .i64 (l28780.length : Int)), (70, .int .i64 x28845), (81, .bool (false))] (by simp only [h28974, Bool.not_true, Bool.not_false]) ?_
                          refine EL.quick 2 [2, 3, 6, 17, 18, 20, 22, 58, 59, 60, 68, 69, 70, 81, 82, 83] [(2, .int .i64 a18), (3, .int .i64 a19), (6, .int .u8 a22), (17, .int .i64 (mn (mx a20 (-5)) 1048576)), (18, .int .i64 (mn (mx a21 (-5)) 1048576)), (20, .slice A28365 (l20174.getD x23240.toNat []).length C28366), (22, .int .i64 (l28780.getD x28845.toNat 0)), (58, .slice (some ⟨g20173, 0, none⟩) l20174.length 2), (59, .int .i64 (l20174.length : Int)), (60, .int .i64 x23240), (68, .slice (some ⟨g28779, 0, none⟩) l28780.length 2), (69, .int .i64 (l28780.length : Int)), (70, .int .i64 x28845), (81, .bool (false)), (82, .slice A28365 (l20174.getD x23240.toNat []).length C28366), (83, .int .i64 (l28780.getD x28845.toNat 0))] (by kernel_rfl) ?_
                          have hS : St B _ (Ass.own 3 (Kd.int .i64) (some ⟨g28779, 0, none⟩) 2 l28780 :: Ass.own 24 (Kd.slice (Kd.int .i64)) (some ⟨g20173, 0, none⟩) 2 l20174 :: os) (Ro.sl (Kd.int .i64) A28365 C28366 (l20174.getD x23240.toNat []) :: Ro.sl (Kd.int .i64) A28365 C28366 (l20174.getD x23240.toNat []) :: Ro.sl (Kd.int .i64) A28365 C28366 (l20174.getD x23240.toNat []) :: Ro.sl (Kd.int .i64) A28365 C28366 (l20174.getD x23240.toNat []) :: Ro.sl (Kd.int .i64) A20058 C20059 x20057 :: Ro.sl (Kd.int .i64) A13 C14 l12 :: Ro.sl (Kd.int .u8) A16 C17 l15 :: rs) := hS.re [] [] rfl (sub_cons 0 rfl sub_self)
                          obtain ⟨t28975, hc28976, H⟩ := b1_out H
                          refine EL.of (EO.callD 34 [.slice A28365 (l20174.getD x23240.toNat []).length C28366, .int .i64 (l28780.getD x28845.toNat 0)] _ 84 (by kernel_rfl) (by kernel_rfl) (by kernel_rfl) (table_All.calls hc28976 hS) ?_)
                          rintro v w ⟨rfl, hS⟩
                          refine EL.quick 2 [2, 3, 6, 17, 18, 20, 58, 59, 60, 68, 69, 70, 81, 82, 83, 84, 85, 86] [(2, .int .i64 a18), (3, .int .i64 a19), (6, .int .u8 a22), (17, .int .i64 (mn (mx a20 (-5)) 1048576)), (18, .int .i64 (mn (mx a21 (-5)) 1048576)), (20, .slice A28365 (l20174.getD x23240.toNat []).length C28366), (58, .slice (some ⟨g20173, 0, none⟩) l20174.length 2), (59, .int .i64 (l20174.length : Int)), (60, .int .i64 x23240), (68, .slice (some ⟨g28779, 0, none⟩) l28780.length 2), (69, .int .i64 (l28780.length : Int)), (70, .int .i64 x28845), (81, .bool (false)), (82, .slice A28365 (l20174.getD x23240.toNat []).length C28366), (83, .int .i64 (l28780.getD x28845.toNat 0)), (84, .bool (t28975)), (85, .slice A28365 (l20174.getD x23240.toNat []).length C28366), (86, .int .i64 (l28780.getD x28845.toNat 0))] (by kernel_rfl) ?_
                          have hS : St B _ (Ass.own 3 (Kd.int .i64) (some ⟨g28779, 0, none⟩) 2 l28780 :: Ass.own 24 (Kd.slice (Kd.int .i64)) (some ⟨g20173, 0, none⟩) 2 l20174 :: os) (Ro.sl (Kd.int .i64) A28365 C28366 (l20174.getD x23240.toNat []) :: Ro.sl (Kd.int .i64) A28365 C28366 (l20174.getD x23240.toNat []) :: Ro.sl (Kd.int .i64) A28365 C28366 (l20174.getD x23240.toNat []) :: Ro.sl (Kd.int .i64) A28365 C28366 (l20174.getD x23240.toNat []) :: Ro.sl (Kd.int .i64) A28365 C28366 (l20174.getD x23240.toNat []) :: Ro.sl (Kd.int .i64) A20058 C20059 x20057 :: Ro.sl (Kd.int .i64) A13 C14 l12 :: Ro.sl (Kd.int .u8) A16 C17 l15 :: rs) := hS.re [] [] rfl (sub_cons 0 rfl sub_self)
                          obtain ⟨t28977, hc28978, H⟩ := b1_out H
                          refine EL.of (EO.callD 35 [.slice A28365 (l20174.getD x23240.toNat []).length C28366, .int .i64 (l28780.getD x28845.toNat 0)] _ 87 (by kernel_rfl) (by kernel_rfl) (by kernel_rfl) (confidantref15_TableAll.calls hc28978 hS) ?_)
                          rintro v w ⟨rfl, hS⟩
                          refine EL.quick 2 [2, 3, 6, 17, 18, 20, 58, 59, 60, 68, 69, 70, 82, 83, 84, 85, 86, 87, 88, 89] [(2, .int .i64 a18), (3, .int .i64 a19), (6, .int .u8 a22), (17, .int .i64 (mn (mx a20 (-5)) 1048576)), (18, .int .i64 (mn (mx a21 (-5)) 1048576)), (20, .slice A28365 (l20174.getD x23240.toNat []).length C28366), (58, .slice (some ⟨g20173, 0, none⟩) l20174.length 2), (59, .int .i64 (l20174.length : Int)), (60, .int .i64 x23240), (68, .slice (some ⟨g28779, 0, none⟩) l28780.length 2), (69, .int .i64 (l28780.length : Int)), (70, .int .i64 x28845), (82, .slice A28365 (l20174.getD x23240.toNat []).length C28366), (83, .int .i64 (l28780.getD x28845.toNat 0)), (84, .bool (t28975)), (85, .slice A28365 (l20174.getD x23240.toNat []).length C28366), (86, .int .i64 (l28780.getD x28845.toNat 0)), (87, .bool (t28977)), (88, .bool (!((t28975 == t28977)))), (89, .bool (!((t28975 == t28977))))] (by kernel_rfl) ?_
                          refine EL.done (by kernel_rfl) ?_
                          refine EQ.to ?_
                          refine EQ.keep [2, 3, 6, 17, 18, 20, 58, 59, 60, 68, 69, 70, 89] [(2, .int .i64 a18), (3, .int .i64 a19), (6, .int .u8 a22), (17, .int .i64 (mn (mx a20 (-5)) 1048576)), (18, .int .i64 (mn (mx a21 (-5)) 1048576)), (20, .slice A28365 (l20174.getD x23240.toNat []).length C28366), (58, .slice (some ⟨g20173, 0, none⟩) l20174.length 2), (59, .int .i64 (l20174.length : Int)), (60, .int .i64 x23240), (68, .slice (some ⟨g28779, 0, none⟩) l28780.length 2), (69, .int .i64 (l28780.length : Int)), (70, .int .i64 x28845), (89, .bool (!((t28975 == t28977))))] (by kernel_rfl) ?_
                          exact fun a ha => ⟨!((t28975 == t28977)), ha, (hS.re [1, 1] [] rfl (sub_cons 0 rfl (sub_cons 0 rfl (sub_cons 0 rfl (sub_cons 0 rfl (sub_cons 0 rfl (sub_cons 5 rfl (sub_cons 6 rfl (sub_cons 7 rfl (sub_tail (sub_tail (sub_tail (sub_tail (sub_tail (sub_tail (sub_tail (sub_tail (sub_self)))))))))))))))))), H⟩
                        · rw [if_neg h28974] at H
                          refine EL.keep [2, 3, 6, 17, 18, 20, 22, 58, 59, 60, 68, 69, 70, 81] [(2, .int .i64 a18), (3, .int .i64 a19), (6, .int .u8 a22), (17, .int .i64 (mn (mx a20 (-5)) 1048576)), (18, .int .i64 (mn (mx a21 (-5)) 1048576)), (20, .slice A28365 (l20174.getD x23240.toNat []).length C28366), (22, .int .i64 (l28780.getD x28845.toNat 0)), (58, .slice (some ⟨g20173, 0, none⟩) l20174.length 2), (59, .int .i64 (l20174.length : Int)), (60, .int .i64 x23240), (68, .slice (some ⟨g28779, 0, none⟩) l28780.length 2), (69, .int .i64 (l28780.length : Int)), (70, .int .i64 x28845), (81, .bool (!((t28970 == t28972))))] (by kernel_rfl) ?_
                          refine EL.as' [(2, .int .i64 a18), (3, .int .i64 a19), (6, .int .u8 a22), (17, .int .i64 (mn (mx a20 (-5)) 1048576)), (18, .int .i64 (mn (mx a21 (-5)) 1048576)), (20, .slice A28365 (l20174.getD x23240.toNat []).length C28366), (22, .int .i64 (l28780.getD x28845.toNat 0)), (58, .slice (some ⟨g20173, 0, none⟩) l20174.length 2), (59, .int .i64 (l20174.length : Int)), (60, .int .i64 x23240), (68, .slice (some ⟨g28779, 0, none⟩) l28780.length 2), (69, .int .i64 (l28780.length : Int)), (70, .int .i64 x28845), (81, .bool (true))] (by simp only [(Bool.eq_false_iff.2 h28974), Bool.not_true, Bool.not_false]) ?_
                          refine EL.quick 8 [2, 3, 6, 17, 18, 20, 58, 59, 60, 68, 69, 70, 89] [(2, .int .i64 a18), (3, .int .i64 a19), (6, .int .u8 a22), (17, .int .i64 (mn (mx a20 (-5)) 1048576)), (18, .int .i64 (mn (mx a21 (-5)) 1048576)), (20, .slice A28365 (l20174.getD x23240.toNat []).length C28366), (58, .slice (some ⟨g20173, 0, none⟩) l20174.length 2), (59, .int .i64 (l20174.length : Int)), (60, .int .i64 x23240), (68, .slice (some ⟨g28779, 0, none⟩) l28780.length 2), (69, .int .i64 (l28780.length : Int)), (70, .int .i64 x28845), (89, .bool (true))] (by kernel_rfl) ?_
                          refine EL.done (by kernel_rfl) ?_
                          refine EQ.to ?_
                          refine EQ.keep [2, 3, 6, 17, 18, 20, 58, 59, 60, 68, 69, 70, 89] [(2, .int .i64 a18), (3, .int .i64 a19), (6, .int .u8 a22), (17, .int .i64 (mn (mx a20 (-5)) 1048576)), (18, .int .i64 (mn (mx a21 (-5)) 1048576)), (20, .slice A28365 (l20174.getD x23240.toNat []).length C28366), (58, .slice (some ⟨g20173, 0, none⟩) l20174.length 2), (59, .int .i64 (l20174.length : Int)), (60, .int .i64 x23240), (68, .slice (some ⟨g28779, 0, none⟩) l28780.length 2), (69, .int .i64 (l28780.length : Int)), (70, .int .i64 x28845), (89, .bool (true))] (by kernel_rfl) ?_
                          exact fun a ha => ⟨true, ha, (hS.re [1, 1] [] rfl (sub_cons 0 rfl (sub_cons 0 rfl (sub_cons 0 rfl (sub_cons 0 rfl (sub_cons 0 rfl (sub_cons 3 rfl (sub_cons 4 rfl (sub_cons 5 rfl (sub_tail (sub_tail (sub_tail (sub_tail (sub_tail (sub_tail (sub_self)))))))))))))))), H⟩
                      · obtain ⟨x28968, ha, hS, H⟩ := hI
                        rw [hj28969] at H
                        (try dsimp only at H)
                        refine EW.at ?_ a ha
                        clear ha a
                        refine EW.condP' (o := (.tmp 89)) (x := C7.r.r.r.r.r.r.l.r.l.l.r.r.l.l.r.l.r.l.l.r.r.l.l.r.r.l) (y := C7.r.r.r.r.r.r.l.r.l.l.r.r.l.l.r.l.r.l.l.r.r.l.l.r.r.r) (x28968) (by kernel_rfl) (by kernel_rfl) (fun h28979 => ?_) (fun h28979 => ?_)
                        · rw [if_pos h28979] at H
                          refine EW.seq (x := C7.r.r.r.r.r.r.l.r.l.l.r.r.l.l.r.l.r.l.l.r.r.l.l.r.r.l.l) (y := C7.r.r.r.r.r.r.l.r.l.l.r.r.l.l.r.l.r.l.l.r.r.l.l.r.r.l.r) (by kernel_rfl) ?_
                          refine EW.region (id := 18) (ops := C7.r.r.r.r.r.r.l.r.l.l.r.r.l.l.r.l.r.l.l.r.r.l.l.r.r.l.l.ops) (by kernel_rfl) ?_
                          refine EL.quick 1 [14] [(14, .bool (false))] (by kernel_rfl) ?_
                          refine EL.done (by kernel_rfl) ?_
                          refine EQ.code ?_
                          refine EW.ret (by kernel_rfl) ?_
                          refine EQ.ret ?_
                          refine EQ.ret ?_
                          refine EQ.ret ?_
                          refine EQ.ret ?_
                          refine EQ.ret ?_
                          refine EQ.ret ?_
                          refine EQ.ret ?_
                          refine EQ.ret ?_
                          refine EQ.ret ?_
                          refine EQ.ret ?_
                          obtain rfl := Option.some.inj H
                          exact EQ.leave (.bool (false)) (by kernel_rfl) ⟨_, rfl, rfl, (hS.re [] [0, 0] rfl (sub_tail (sub_tail (sub_tail (sub_tail (sub_tail (sub_tail (sub_self))))))))⟩
                        · rw [if_neg h28979] at H
                          refine EW.skip (by kernel_rfl) ?_
                          refine EQ.pop ?_
                          refine EQ.code ?_
                          refine EW.region (id := 19) (ops := C7.r.r.r.r.r.r.l.r.l.l.r.r.l.l.r.l.r.l.l.r.r.r.ops) (by kernel_rfl) ?_
                          refine EL.quick 2 [2, 3, 6, 17, 18, 20, 58, 59, 60, 68, 69, 70] [(2, .int .i64 a18), (3, .int .i64 a19), (6, .int .u8 a22), (17, .int .i64 (mn (mx a20 (-5)) 1048576)), (18, .int .i64 (mn (mx a21 (-5)) 1048576)), (20, .slice A28365 (l20174.getD x23240.toNat []).length C28366), (58, .slice (some ⟨g20173, 0, none⟩) l20174.length 2), (59, .int .i64 (l20174.length : Int)), (60, .int .i64 x23240), (68, .slice (some ⟨g28779, 0, none⟩) l28780.length 2), (69, .int .i64 (l28780.length : Int)), (70, .int .i64 (IntKind.i64.wrap (x28845 + 1)))] (by kernel_rfl) ?_
                          refine EL.done (by kernel_rfl) ?_
                          refine EQ.to ?_
                          refine EQ.keep [2, 3, 6, 17, 18, 20, 58, 59, 60, 68, 69, 70] [(2, .int .i64 a18), (3, .int .i64 a19), (6, .int .u8 a22), (17, .int .i64 (mn (mx a20 (-5)) 1048576)), (18, .int .i64 (mn (mx a21 (-5)) 1048576)), (20, .slice A28365 (l20174.getD x23240.toNat []).length C28366), (58, .slice (some ⟨g20173, 0, none⟩) l20174.length 2), (59, .int .i64 (l20174.length : Int)), (60, .int .i64 x23240), (68, .slice (some ⟨g28779, 0, none⟩) l28780.length 2), (69, .int .i64 (l28780.length : Int)), (70, .int .i64 (IntKind.i64.wrap (x28845 + 1)))] (by kernel_rfl) ?_
                          exact fun a ha => ⟨n, Nat.lt_succ_self n, IntKind.i64.wrap (x28845 + 1), ha, (hS.re [1, 1] [] rfl (sub_cons 0 rfl (sub_cons 5 rfl (sub_cons 6 rfl (sub_cons 7 rfl (sub_tail (sub_tail (sub_tail (sub_tail (sub_tail (sub_tail (sub_tail (sub_tail (sub_self)))))))))))))), H⟩
                    · rw [if_neg h28915] at H
                      refine EW.exit (id := 4) (by kernel_rfl) ?_
                      refine EQ.exitCode ?_
                      refine EQ.exitTo ?_
                      refine EQ.exitHere ?_
                      refine EQ.to ?_
                      refine EQ.keep [2, 3, 6, 17, 18, 20, 58, 59, 60] [(2, .int .i64 a18), (3, .int .i64 a19), (6, .int .u8 a22), (17, .int .i64 (mn (mx a20 (-5)) 1048576)), (18, .int .i64 (mn (mx a21 (-5)) 1048576)), (20, .slice A28365 (l20174.getD x23240.toNat []).length C28366), (58, .slice (some ⟨g20173, 0, none⟩) l20174.length 2), (59, .int .i64 (l20174.length : Int)), (60, .int .i64 x23240)] (by kernel_rfl) ?_
                      exact fun a ha => ⟨l28780, (some ⟨g28779, 0, none⟩), 2, ha, (hS.re [1, 1] [] rfl (sub_cons 0 rfl (sub_cons 1 rfl (sub_cons 2 rfl (sub_cons 3 rfl (sub_tail (sub_tail (sub_tail (sub_tail (sub_self)))))))))), H⟩
                · obtain ⟨x28773, A28774, C28775, ha, hS, H⟩ := hI
                  rw [hj28776] at H
                  (try dsimp only at H)
                  refine EW.at ?_ a ha
                  clear ha a
                  refine EW.seq (x := C7.r.r.r.r.r.r.l.r.l.l.r.r.l.l.r.r.l) (y := C7.r.r.r.r.r.r.l.r.l.l.r.r.l.l.r.r.r) (by kernel_rfl) ?_
                  refine EW.region (id := 20) (ops := C7.r.r.r.r.r.r.l.r.l.l.r.r.l.l.r.r.l.ops) (by kernel_rfl) ?_
                  refine EL.quick 4 [2, 3, 6, 17, 18, 20, 58, 59, 60, 91, 94] [(2, .int .i64 a18), (3, .int .i64 a19), (6, .int .u8 a22), (17, .int .i64 (mn (mx a20 (-5)) 1048576)), (18, .int .i64 (mn (mx a21 (-5)) 1048576)), (20, .slice A28365 (l20174.getD x23240.toNat []).length C28366), (58, .slice (some ⟨g20173, 0, none⟩) l20174.length 2), (59, .int .i64 (l20174.length : Int)), (60, .int .i64 x23240), (91, .int .i64 a19), (94, .int .i64 (IntKind.i64.wrap (Int.tmod a22 6)))] (by kernel_rfl) ?_
                  obtain ⟨l28983, hl28983, H⟩ := lt_out H
                  refine EL.of (EO.lit hS (Kd.int .i64) 3 24 2 #[(0, .int .i64 a19), (1, .int .i64 (IntKind.i64.wrap (Int.tmod a22 6)))] [.int .i64 a19, .int .i64 (IntKind.i64.wrap (Int.tmod a22 6))] l28983 95 (by kernel_rfl) (by kernel_rfl) (by kernel_rfl) (fun _ => (by kernel_rfl)) (by rw [hl28983]; rfl) (by kernel_rfl) (fun w G hr => (by rw [hl28983]; exact ⟨[.int .i64 a19], [.int .i64 (IntKind.i64.wrap (Int.tmod a22 6))], rfl, rfl, ⟨[.int .i64 (IntKind.i64.wrap (Int.tmod a22 6))], [], rfl, rfl, rfl⟩⟩)) ?_)
                  intro g28982 w hS
                  refine EL.quick 2 [2, 3, 6, 17, 18, 20, 58, 59, 60, 95, 96, 97] [(2, .int .i64 a18), (3, .int .i64 a19), (6, .int .u8 a22), (17, .int .i64 (mn (mx a20 (-5)) 1048576)), (18, .int .i64 (mn (mx a21 (-5)) 1048576)), (20, .slice A28365 (l20174.getD x23240.toNat []).length C28366), (58, .slice (some ⟨g20173, 0, none⟩) l20174.length 2), (59, .int .i64 (l20174.length : Int)), (60, .int .i64 x23240), (95, .slice (some ⟨g28982, 0, none⟩) l28983.length 2), (96, .int .i64 (l28983.length : Int)), (97, .int .i64 0)] (by kernel_rfl) ?_
                  refine EL.done (by kernel_rfl) ?_
                  refine EQ.code ?_
                  refine EW.block (x := C7.r.r.r.r.r.r.l.r.l.l.r.r.l.l.r.r.r.l) (id := 6) (by kernel_rfl) ?_
                  refine EW.loop (x := C7.r.r.r.r.r.r.l.r.l.l.r.r.l.l.r.r.r.l.l) (fun n a w => ∃ x29114 : Int, Sat 159 [(2, .int .i64 a18), (3, .int .i64 a19), (6, .int .u8 a22), (17, .int .i64 (mn (mx a20 (-5)) 1048576)), (18, .int .i64 (mn (mx a21 (-5)) 1048576)), (20, .slice A28365 (l20174.getD x23240.toNat []).length C28366), (58, .slice (some ⟨g20173, 0, none⟩) l20174.length 2), (59, .int .i64 (l20174.length : Int)), (60, .int .i64 x23240), (95, .slice (some ⟨g28982, 0, none⟩) l28983.length 2), (96, .int .i64 (l28983.length : Int)), (97, .int .i64 x29114)] a ∧ St B w (Ass.own 3 (Kd.int .i64) (some ⟨g28982, 0, none⟩) 2 l28983 :: Ass.own 3 (Kd.int .i64) A28774 C28775 x28773 :: Ass.own 24 (Kd.slice (Kd.int .i64)) (some ⟨g20173, 0, none⟩) 2 l20174 :: os) (Ro.sl (Kd.int .i64) A28365 C28366 (l20174.getD x23240.toNat []) :: Ro.sl (Kd.int .i64) A20058 C20059 x20057 :: Ro.sl (Kd.int .i64) A13 C14 l12 :: Ro.sl (Kd.int .u8) A16 C17 l15 :: rs) ∧ confidantlaw18_TableTells.l3 K l28983 l20174 x23240 a20 a21 a22 j28360 x28773 n x29114 = some x19818) K (by kernel_rfl) ?_ (fun n a w hI => ?_)
                  · refine EQ.keep [2, 3, 6, 17, 18, 20, 58, 59, 60, 95, 96, 97] [(2, .int .i64 a18), (3, .int .i64 a19), (6, .int .u8 a22), (17, .int .i64 (mn (mx a20 (-5)) 1048576)), (18, .int .i64 (mn (mx a21 (-5)) 1048576)), (20, .slice A28365 (l20174.getD x23240.toNat []).length C28366), (58, .slice (some ⟨g20173, 0, none⟩) l20174.length 2), (59, .int .i64 (l20174.length : Int)), (60, .int .i64 x23240), (95, .slice (some ⟨g28982, 0, none⟩) l28983.length 2), (96, .int .i64 (l28983.length : Int)), (97, .int .i64 0)] (by kernel_rfl) ?_
                    exact fun a ha => ⟨0, ha, (hS.re [2, 2, 2] [] rfl (sub_cons 0 rfl (sub_cons 1 rfl (sub_cons 2 rfl (sub_cons 3 rfl (sub_tail (sub_tail (sub_tail (sub_tail (sub_self)))))))))), H⟩
                  · obtain ⟨x29114, ha, hS, H⟩ := hI
                    obtain _ | n := n
                    · simp [confidantlaw18_TableTells.l3] at H
                    rw [confidantlaw18_TableTells.l3.eq_2] at H
                    refine EW.at ?_ a ha
                    clear ha a
                    refine EW.seq (x := C7.r.r.r.r.r.r.l.r.l.l.r.r.l.l.r.r.r.l.l.l) (y := C7.r.r.r.r.r.r.l.r.l.l.r.r.l.l.r.r.r.l.l.r) (by kernel_rfl) ?_
                    refine EW.region (id := 21) (ops := C7.r.r.r.r.r.r.l.r.l.l.r.r.l.l.r.r.r.l.l.l.ops) (by kernel_rfl) ?_
                    refine EL.quick 1 [2, 3, 6, 17, 18, 20, 58, 59, 60, 95, 96, 97, 98] [(2, .int .i64 a18), (3, .int .i64 a19), (6, .int .u8 a22), (17, .int .i64 (mn (mx a20 (-5)) 1048576)), (18, .int .i64 (mn (mx a21 (-5)) 1048576)), (20, .slice A28365 (l20174.getD x23240.toNat []).length C28366), (58, .slice (some ⟨g20173, 0, none⟩) l20174.length 2), (59, .int .i64 (l20174.length : Int)), (60, .int .i64 x23240), (95, .slice (some ⟨g28982, 0, none⟩) l28983.length 2), (96, .int .i64 (l28983.length : Int)), (97, .int .i64 x29114), (98, .bool (decide (x29114 < (l28983.length : Int))))] (by kernel_rfl) ?_
                    refine EL.done (by kernel_rfl) ?_
                    refine EQ.code ?_
                    refine EW.seq (x := C7.r.r.r.r.r.r.l.r.l.l.r.r.l.l.r.r.r.l.l.r.l) (y := C7.r.r.r.r.r.r.l.r.l.l.r.r.l.l.r.r.r.l.l.r.r) (by kernel_rfl) ?_
                    refine EW.condP (o := (.tmp 98)) (x := C7.r.r.r.r.r.r.l.r.l.l.r.r.l.l.r.r.r.l.l.r.l.l) (y := C7.r.r.r.r.r.r.l.r.l.l.r.r.l.l.r.r.r.l.l.r.l.r) (x29114 < (l28983.length : Int)) (by kernel_rfl) (by kernel_rfl) (fun h29250 => ?_) (fun h29250 => ?_)
                    · rw [if_pos h29250] at H
                      refine EW.skip (by kernel_rfl) ?_
                      refine EQ.code ?_
                      refine EW.seq (x := C7.r.r.r.r.r.r.l.r.l.l.r.r.l.l.r.r.r.l.l.r.r.l) (y := C7.r.r.r.r.r.r.l.r.l.l.r.r.l.l.r.r.r.l.l.r.r.r) (by kernel_rfl) ?_
                      refine EW.block (x := C7.r.r.r.r.r.r.l.r.l.l.r.r.l.l.r.r.r.l.l.r.r.l.l) (id := 7) (by kernel_rfl) ?_
                      refine EW.seq (x := C7.r.r.r.r.r.r.l.r.l.l.r.r.l.l.r.r.r.l.l.r.r.l.l.l) (y := C7.r.r.r.r.r.r.l.r.l.l.r.r.l.l.r.r.r.l.l.r.r.l.l.r) (by kernel_rfl) ?_
                      refine EW.region (id := 22) (ops := C7.r.r.r.r.r.r.l.r.l.l.r.r.l.l.r.r.r.l.l.r.r.l.l.l.ops) (by kernel_rfl) ?_
                      obtain ⟨h29317, H⟩ := ite_in H
                      refine EL.of (EO.Y (YO.idx 24 1 ⟨g28982, 0, none⟩ l28983.length 2 .i64 x29114 99 (by kernel_rfl) (by kernel_rfl) (by kernel_rfl) (by kernel_rfl) h29317 h29250) ?_)
                      refine EL.of (EO.Y (YO.loadEl hS (Kd.int .i64) ⟨g28982, 0, none⟩ 2 l28983 (Rd.own 0 3 rfl) 0 (encI .i64) encI_of x29114 h29317 h29250 3 1 0 1 rfl (.int .i64 (l28983.getD x29114.toNat 0)) 100 (by kernel_rfl) (by kernel_rfl) (by kernel_rfl) (by kernel_rfl)) ?_)
                      refine EL.quick 1 [2, 3, 6, 17, 18, 20, 24, 58, 59, 60, 95, 96, 97] [(2, .int .i64 a18), (3, .int .i64 a19), (6, .int .u8 a22), (17, .int .i64 (mn (mx a20 (-5)) 1048576)), (18, .int .i64 (mn (mx a21 (-5)) 1048576)), (20, .slice A28365 (l20174.getD x23240.toNat []).length C28366), (24, .int .i64 (l28983.getD x29114.toNat 0)), (58, .slice (some ⟨g20173, 0, none⟩) l20174.length 2), (59, .int .i64 (l20174.length : Int)), (60, .int .i64 x23240), (95, .slice (some ⟨g28982, 0, none⟩) l28983.length 2), (96, .int .i64 (l28983.length : Int)), (97, .int .i64 x29114)] (by kernel_rfl) ?_
                      refine EL.done (by kernel_rfl) ?_
                      refine EQ.code ?_
                      obtain ⟨j29359, hj29359, H⟩ := lt_out H
                      refine EW.cut (x := C7.r.r.r.r.r.r.l.r.l.l.r.r.l.l.r.r.r.l.l.r.r.l.l.r.l) (y := C7.r.r.r.r.r.r.l.r.l.l.r.r.l.l.r.r.r.l.l.r.r.l.l.r.r) (fun a w => ∃ x29358 : Bool, Sat 159 [(2, .int .i64 a18), (3, .int .i64 a19), (6, .int .u8 a22), (17, .int .i64 (mn (mx a20 (-5)) 1048576)), (18, .int .i64 (mn (mx a21 (-5)) 1048576)), (20, .slice A28365 (l20174.getD x23240.toNat []).length C28366), (58, .slice (some ⟨g20173, 0, none⟩) l20174.length 2), (59, .int .i64 (l20174.length : Int)), (60, .int .i64 x23240), (95, .slice (some ⟨g28982, 0, none⟩) l28983.length 2), (96, .int .i64 (l28983.length : Int)), (97, .int .i64 x29114), (156, .bool (x29358))] a ∧ St B w (Ass.own 3 (Kd.int .i64) (some ⟨g28982, 0, none⟩) 2 l28983 :: Ass.own 3 (Kd.int .i64) A28774 C28775 x28773 :: Ass.own 24 (Kd.slice (Kd.int .i64)) (some ⟨g20173, 0, none⟩) 2 l20174 :: os) (Ro.sl (Kd.int .i64) A28365 C28366 (l20174.getD x23240.toNat []) :: Ro.sl (Kd.int .i64) A28365 C28366 (l20174.getD x23240.toNat []) :: Ro.sl (Kd.int .i64) A28365 C28366 (l20174.getD x23240.toNat []) :: Ro.sl (Kd.int .i64) A28365 C28366 (l20174.getD x23240.toNat []) :: Ro.sl (Kd.int .i64) A28365 C28366 (l20174.getD x23240.toNat []) :: Ro.sl (Kd.int .i64) A28365 C28366 (l20174.getD x23240.toNat []) :: Ro.sl (Kd.int .i64) A28365 C28366 (l20174.getD x23240.toNat []) :: Ro.sl (Kd.int .i64) A28365 C28366 (l20174.getD x23240.toNat []) :: Ro.sl (Kd.int .i64) A28365 C28366 (l20174.getD x23240.toNat []) :: Ro.sl (Kd.int .i64) A20058 C20059 x20057 :: Ro.sl (Kd.int .i64) A13 C14 l12 :: Ro.sl (Kd.int .u8) A16 C17 l15 :: rs) ∧ j29359 x29358 = some x19818) (by kernel_rfl) ?_ (fun a w hI => ?_)
                      · refine EW.region (id := 23) (ops := C7.r.r.r.r.r.r.l.r.l.l.r.r.l.l.r.r.r.l.l.r.r.l.l.r.l.ops) (by kernel_rfl) ?_
                        refine EL.quick 2 [2, 3, 6, 17, 18, 20, 24, 58, 59, 60, 95, 96, 97, 101, 102] [(2, .int .i64 a18), (3, .int .i64 a19), (6, .int .u8 a22), (17, .int .i64 (mn (mx a20 (-5)) 1048576)), (18, .int .i64 (mn (mx a21 (-5)) 1048576)), (20, .slice A28365 (l20174.getD x23240.toNat []).length C28366), (24, .int .i64 (l28983.getD x29114.toNat 0)), (58, .slice (some ⟨g20173, 0, none⟩) l20174.length 2), (59, .int .i64 (l20174.length : Int)), (60, .int .i64 x23240), (95, .slice (some ⟨g28982, 0, none⟩) l28983.length 2), (96, .int .i64 (l28983.length : Int)), (97, .int .i64 x29114), (101, .slice A28365 (l20174.getD x23240.toNat []).length C28366), (102, .int .i64 (mn (mx a20 (-5)) 1048576))] (by kernel_rfl) ?_
                        have hS : St B _ (Ass.own 3 (Kd.int .i64) (some ⟨g28982, 0, none⟩) 2 l28983 :: Ass.own 3 (Kd.int .i64) A28774 C28775 x28773 :: Ass.own 24 (Kd.slice (Kd.int .i64)) (some ⟨g20173, 0, none⟩) 2 l20174 :: os) (Ro.sl (Kd.int .i64) A28365 C28366 (l20174.getD x23240.toNat []) :: Ro.sl (Kd.int .i64) A28365 C28366 (l20174.getD x23240.toNat []) :: Ro.sl (Kd.int .i64) A20058 C20059 x20057 :: Ro.sl (Kd.int .i64) A13 C14 l12 :: Ro.sl (Kd.int .u8) A16 C17 l15 :: rs) := hS.re [] [] rfl (sub_cons 0 rfl sub_self)
                        obtain ⟨t29360, hc29361, H⟩ := b1_out H
                        refine EL.of (EO.callD 36 [.slice A28365 (l20174.getD x23240.toNat []).length C28366, .int .i64 (mn (mx a20 (-5)) 1048576)] _ 103 (by kernel_rfl) (by kernel_rfl) (by kernel_rfl) (table_At.calls hc29361 hS) ?_)
                        rintro v w ⟨rfl, hS⟩
                        refine EL.quick 2 [2, 3, 6, 17, 18, 20, 24, 58, 59, 60, 95, 96, 97, 103, 104, 105] [(2, .int .i64 a18), (3, .int .i64 a19), (6, .int .u8 a22), (17, .int .i64 (mn (mx a20 (-5)) 1048576)), (18, .int .i64 (mn (mx a21 (-5)) 1048576)), (20, .slice A28365 (l20174.getD x23240.toNat []).length C28366), (24, .int .i64 (l28983.getD x29114.toNat 0)), (58, .slice (some ⟨g20173, 0, none⟩) l20174.length 2), (59, .int .i64 (l20174.length : Int)), (60, .int .i64 x23240), (95, .slice (some ⟨g28982, 0, none⟩) l28983.length 2), (96, .int .i64 (l28983.length : Int)), (97, .int .i64 x29114), (103, .int .i64 t29360), (104, .slice A28365 (l20174.getD x23240.toNat []).length C28366), (105, .int .i64 (mn (mx a20 (-5)) 1048576))] (by kernel_rfl) ?_
                        have hS : St B _ (Ass.own 3 (Kd.int .i64) (some ⟨g28982, 0, none⟩) 2 l28983 :: Ass.own 3 (Kd.int .i64) A28774 C28775 x28773 :: Ass.own 24 (Kd.slice (Kd.int .i64)) (some ⟨g20173, 0, none⟩) 2 l20174 :: os) (Ro.sl (Kd.int .i64) A28365 C28366 (l20174.getD x23240.toNat []) :: Ro.sl (Kd.int .i64) A28365 C28366 (l20174.getD x23240.toNat []) :: Ro.sl (Kd.int .i64) A28365 C28366 (l20174.getD x23240.toNat []) :: Ro.sl (Kd.int .i64) A20058 C20059 x20057 :: Ro.sl (Kd.int .i64) A13 C14 l12 :: Ro.sl (Kd.int .u8) A16 C17 l15 :: rs) := hS.re [] [] rfl (sub_cons 0 rfl sub_self)
                        obtain ⟨t29362, hc29363, H⟩ := b1_out H
                        refine EL.of (EO.callD 37 [.slice A28365 (l20174.getD x23240.toNat []).length C28366, .int .i64 (mn (mx a20 (-5)) 1048576)] _ 106 (by kernel_rfl) (by kernel_rfl) (by kernel_rfl) (confidantref15_At.calls hc29363 hS) ?_)
                        rintro v w ⟨rfl, hS⟩
                        refine EL.quick 2 [2, 3, 6, 17, 18, 20, 24, 58, 59, 60, 95, 96, 97, 108] [(2, .int .i64 a18), (3, .int .i64 a19), (6, .int .u8 a22), (17, .int .i64 (mn (mx a20 (-5)) 1048576)), (18, .int .i64 (mn (mx a21 (-5)) 1048576)), (20, .slice A28365 (l20174.getD x23240.toNat []).length C28366), (24, .int .i64 (l28983.getD x29114.toNat 0)), (58, .slice (some ⟨g20173, 0, none⟩) l20174.length 2), (59, .int .i64 (l20174.length : Int)), (60, .int .i64 x23240), (95, .slice (some ⟨g28982, 0, none⟩) l28983.length 2), (96, .int .i64 (l28983.length : Int)), (97, .int .i64 x29114), (108, .bool (!(decide (t29360 = t29362))))] (by kernel_rfl) ?_
                        by_cases h29364 : t29360 = t29362
                        · rw [if_pos h29364] at H
                          refine EL.keep [2, 3, 6, 17, 18, 20, 24, 58, 59, 60, 95, 96, 97, 108] [(2, .int .i64 a18), (3, .int .i64 a19), (6, .int .u8 a22), (17, .int .i64 (mn (mx a20 (-5)) 1048576)), (18, .int .i64 (mn (mx a21 (-5)) 1048576)), (20, .slice A28365 (l20174.getD x23240.toNat []).length C28366), (24, .int .i64 (l28983.getD x29114.toNat 0)), (58, .slice (some ⟨g20173, 0, none⟩) l20174.length 2), (59, .int .i64 (l20174.length : Int)), (60, .int .i64 x23240), (95, .slice (some ⟨g28982, 0, none⟩) l28983.length 2), (96, .int .i64 (l28983.length : Int)), (97, .int .i64 x29114), (108, .bool (!(decide (t29360 = t29362))))] (by kernel_rfl) ?_
                          refine EL.as' [(2, .int .i64 a18), (3, .int .i64 a19), (6, .int .u8 a22), (17, .int .i64 (mn (mx a20 (-5)) 1048576)), (18, .int .i64 (mn (mx a21 (-5)) 1048576)), (20, .slice A28365 (l20174.getD x23240.toNat []).length C28366), (24, .int .i64 (l28983.getD x29114.toNat 0)), (58, .slice (some ⟨g20173, 0, none⟩) l20174.length 2), (59, .int .i64 (l20174.length : Int)), (60, .int .i64 x23240), (95, .slice (some ⟨g28982, 0, none⟩) l28983.length 2), (96, .int .i64 (l28983.length : Int)), (97, .int .i64 x29114), (108, .bool (false))] (by simp only [dec_t h29364, Bool.not_true, Bool.not_false]) ?_
                          refine EL.quick 3 [2, 3, 6, 17, 18, 20, 24, 58, 59, 60, 95, 96, 97, 108, 109, 110, 111] [(2, .int .i64 a18), (3, .int .i64 a19), (6, .int .u8 a22), (17, .int .i64 (mn (mx a20 (-5)) 1048576)), (18, .int .i64 (mn (mx a21 (-5)) 1048576)), (20, .slice A28365 (l20174.getD x23240.toNat []).length C28366), (24, .int .i64 (l28983.getD x29114.toNat 0)), (58, .slice (some ⟨g20173, 0, none⟩) l20174.length 2), (59, .int .i64 (l20174.length : Int)), (60, .int .i64 x23240), (95, .slice (some ⟨g28982, 0, none⟩) l28983.length 2), (96, .int .i64 (l28983.length : Int)), (97, .int .i64 x29114), (108, .bool (false)), (109, .slice A28365 (l20174.getD x23240.toNat []).length C28366), (110, .int .i64 (l28983.getD x29114.toNat 0)), (111, .int .i64 (mn (mx a20 (-5)) 1048576))] (by kernel_rfl) ?_
                          have hS : St B _ (Ass.own 3 (Kd.int .i64) (some ⟨g28982, 0, none⟩) 2 l28983 :: Ass.own 3 (Kd.int .i64) A28774 C28775 x28773 :: Ass.own 24 (Kd.slice (Kd.int .i64)) (some ⟨g20173, 0, none⟩) 2 l20174 :: os) (Ro.sl (Kd.int .i64) A28365 C28366 (l20174.getD x23240.toNat []) :: Ro.sl (Kd.int .i64) A28365 C28366 (l20174.getD x23240.toNat []) :: Ro.sl (Kd.int .i64) A28365 C28366 (l20174.getD x23240.toNat []) :: Ro.sl (Kd.int .i64) A28365 C28366 (l20174.getD x23240.toNat []) :: Ro.sl (Kd.int .i64) A20058 C20059 x20057 :: Ro.sl (Kd.int .i64) A13 C14 l12 :: Ro.sl (Kd.int .u8) A16 C17 l15 :: rs) := hS.re [] [] rfl (sub_cons 0 rfl sub_self)
                          obtain ⟨t29365, hc29366, H⟩ := b1_out H
                          refine EL.of (EO.callD 38 [.slice A28365 (l20174.getD x23240.toNat []).length C28366, .int .i64 (l28983.getD x29114.toNat 0), .int .i64 (mn (mx a20 (-5)) 1048576)] _ 112 (by kernel_rfl) (by kernel_rfl) (by kernel_rfl) (table_Next.calls hc29366 hS) ?_)
                          rintro v w ⟨rfl, hS⟩
                          refine EL.quick 3 [2, 3, 6, 17, 18, 20, 24, 58, 59, 60, 95, 96, 97, 108, 109, 110, 111, 112, 113, 114, 115] [(2, .int .i64 a18), (3, .int .i64 a19), (6, .int .u8 a22), (17, .int .i64 (mn (mx a20 (-5)) 1048576)), (18, .int .i64 (mn (mx a21 (-5)) 1048576)), (20, .slice A28365 (l20174.getD x23240.toNat []).length C28366), (24, .int .i64 (l28983.getD x29114.toNat 0)), (58, .slice (some ⟨g20173, 0, none⟩) l20174.length 2), (59, .int .i64 (l20174.length : Int)), (60, .int .i64 x23240), (95, .slice (some ⟨g28982, 0, none⟩) l28983.length 2), (96, .int .i64 (l28983.length : Int)), (97, .int .i64 x29114), (108, .bool (false)), (109, .slice A28365 (l20174.getD x23240.toNat []).length C28366), (110, .int .i64 (l28983.getD x29114.toNat 0)), (111, .int .i64 (mn (mx a20 (-5)) 1048576)), (112, .int .i64 t29365), (113, .slice A28365 (l20174.getD x23240.toNat []).length C28366), (114, .int .i64 (l28983.getD x29114.toNat 0)), (115, .int .i64 (mn (mx a20 (-5)) 1048576))] (by kernel_rfl) ?_
                          have hS : St B _ (Ass.own 3 (Kd.int .i64) (some ⟨g28982, 0, none⟩) 2 l28983 :: Ass.own 3 (Kd.int .i64) A28774 C28775 x28773 :: Ass.own 24 (Kd.slice (Kd.int .i64)) (some ⟨g20173, 0, none⟩) 2 l20174 :: os) (Ro.sl (Kd.int .i64) A28365 C28366 (l20174.getD x23240.toNat []) :: Ro.sl (Kd.int .i64) A28365 C28366 (l20174.getD x23240.toNat []) :: Ro.sl (Kd.int .i64) A28365 C28366 (l20174.getD x23240.toNat []) :: Ro.sl (Kd.int .i64) A28365 C28366 (l20174.getD x23240.toNat []) :: Ro.sl (Kd.int .i64) A28365 C28366 (l20174.getD x23240.toNat []) :: Ro.sl (Kd.int .i64) A20058 C20059 x20057 :: Ro.sl (Kd.int .i64) A13 C14 l12 :: Ro.sl (Kd.int .u8) A16 C17 l15 :: rs) := hS.re [] [] rfl (sub_cons 0 rfl sub_self)
                          obtain ⟨t29367, hc29368, H⟩ := b1_out H
                          refine EL.of (EO.callD 39 [.slice A28365 (l20174.getD x23240.toNat []).length C28366, .int .i64 (l28983.getD x29114.toNat 0), .int .i64 (mn (mx a20 (-5)) 1048576)] _ 116 (by kernel_rfl) (by kernel_rfl) (by kernel_rfl) (confidantref15_NextRound.calls hc29368 hS) ?_)
                          rintro v w ⟨rfl, hS⟩
                          refine EL.quick 3 [2, 3, 6, 17, 18, 20, 24, 58, 59, 60, 95, 96, 97, 109, 110, 111, 112, 113, 114, 115, 116, 117, 119] [(2, .int .i64 a18), (3, .int .i64 a19), (6, .int .u8 a22), (17, .int .i64 (mn (mx a20 (-5)) 1048576)), (18, .int .i64 (mn (mx a21 (-5)) 1048576)), (20, .slice A28365 (l20174.getD x23240.toNat []).length C28366), (24, .int .i64 (l28983.getD x29114.toNat 0)), (58, .slice (some ⟨g20173, 0, none⟩) l20174.length 2), (59, .int .i64 (l20174.length : Int)), (60, .int .i64 x23240), (95, .slice (some ⟨g28982, 0, none⟩) l28983.length 2), (96, .int .i64 (l28983.length : Int)), (97, .int .i64 x29114), (109, .slice A28365 (l20174.getD x23240.toNat []).length C28366), (110, .int .i64 (l28983.getD x29114.toNat 0)), (111, .int .i64 (mn (mx a20 (-5)) 1048576)), (112, .int .i64 t29365), (113, .slice A28365 (l20174.getD x23240.toNat []).length C28366), (114, .int .i64 (l28983.getD x29114.toNat 0)), (115, .int .i64 (mn (mx a20 (-5)) 1048576)), (116, .int .i64 t29367), (117, .bool (!(decide (t29365 = t29367)))), (119, .bool (!(decide (t29365 = t29367))))] (by kernel_rfl) ?_
                          by_cases h29369 : t29365 = t29367
                          · rw [if_pos h29369] at H
                            refine EL.keep [2, 3, 6, 17, 18, 20, 24, 58, 59, 60, 95, 96, 97, 109, 110, 111, 112, 113, 114, 115, 116, 117, 119] [(2, .int .i64 a18), (3, .int .i64 a19), (6, .int .u8 a22), (17, .int .i64 (mn (mx a20 (-5)) 1048576)), (18, .int .i64 (mn (mx a21 (-5)) 1048576)), (20, .slice A28365 (l20174.getD x23240.toNat []).length C28366), (24, .int .i64 (l28983.getD x29114.toNat 0)), (58, .slice (some ⟨g20173, 0, none⟩) l20174.length 2), (59, .int .i64 (l20174.length : Int)), (60, .int .i64 x23240), (95, .slice (some ⟨g28982, 0, none⟩) l28983.length 2), (96, .int .i64 (l28983.length : Int)), (97, .int .i64 x29114), (109, .slice A28365 (l20174.getD x23240.toNat []).length C28366), (110, .int .i64 (l28983.getD x29114.toNat 0)), (111, .int .i64 (mn (mx a20 (-5)) 1048576)), (112, .int .i64 t29365), (113, .slice A28365 (l20174.getD x23240.toNat []).length C28366), (114, .int .i64 (l28983.getD x29114.toNat 0)), (115, .int .i64 (mn (mx a20 (-5)) 1048576)), (116, .int .i64 t29367), (117, .bool (!(decide (t29365 = t29367)))), (119, .bool (!(decide (t29365 = t29367))))] (by kernel_rfl) ?_
                            refine EL.as' [(2, .int .i64 a18), (3, .int .i64 a19), (6, .int .u8 a22), (17, .int .i64 (mn (mx a20 (-5)) 1048576)), (18, .int .i64 (mn (mx a21 (-5)) 1048576)), (20, .slice A28365 (l20174.getD x23240.toNat []).length C28366), (24, .int .i64 (l28983.getD x29114.toNat 0)), (58, .slice (some ⟨g20173, 0, none⟩) l20174.length 2), (59, .int .i64 (l20174.length : Int)), (60, .int .i64 x23240), (95, .slice (some ⟨g28982, 0, none⟩) l28983.length 2), (96, .int .i64 (l28983.length : Int)), (97, .int .i64 x29114), (109, .slice A28365 (l20174.getD x23240.toNat []).length C28366), (110, .int .i64 (l28983.getD x29114.toNat 0)), (111, .int .i64 (mn (mx a20 (-5)) 1048576)), (112, .int .i64 t29365), (113, .slice A28365 (l20174.getD x23240.toNat []).length C28366), (114, .int .i64 (l28983.getD x29114.toNat 0)), (115, .int .i64 (mn (mx a20 (-5)) 1048576)), (116, .int .i64 t29367), (117, .bool (false)), (119, .bool (false))] (by simp only [dec_t h29369, Bool.not_true, Bool.not_false]) ?_
                            refine EL.quick 4 [2, 3, 6, 17, 18, 20, 24, 58, 59, 60, 95, 96, 97, 109, 110, 111, 112, 113, 114, 115, 116, 117, 119, 120, 121, 122, 123] [(2, .int .i64 a18), (3, .int .i64 a19), (6, .int .u8 a22), (17, .int .i64 (mn (mx a20 (-5)) 1048576)), (18, .int .i64 (mn (mx a21 (-5)) 1048576)), (20, .slice A28365 (l20174.getD x23240.toNat []).length C28366), (24, .int .i64 (l28983.getD x29114.toNat 0)), (58, .slice (some ⟨g20173, 0, none⟩) l20174.length 2), (59, .int .i64 (l20174.length : Int)), (60, .int .i64 x23240), (95, .slice (some ⟨g28982, 0, none⟩) l28983.length 2), (96, .int .i64 (l28983.length : Int)), (97, .int .i64 x29114), (109, .slice A28365 (l20174.getD x23240.toNat []).length C28366), (110, .int .i64 (l28983.getD x29114.toNat 0)), (111, .int .i64 (mn (mx a20 (-5)) 1048576)), (112, .int .i64 t29365), (113, .slice A28365 (l20174.getD x23240.toNat []).length C28366), (114, .int .i64 (l28983.getD x29114.toNat 0)), (115, .int .i64 (mn (mx a20 (-5)) 1048576)), (116, .int .i64 t29367), (117, .bool (false)), (119, .bool (false)), (120, .slice A28365 (l20174.getD x23240.toNat []).length C28366), (121, .int .i64 (l28983.getD x29114.toNat 0)), (122, .int .i64 (mn (mx a20 (-5)) 1048576)), (123, .int .i64 (mn (mx a21 (-5)) 1048576))] (by kernel_rfl) ?_
                            have hS : St B _ (Ass.own 3 (Kd.int .i64) (some ⟨g28982, 0, none⟩) 2 l28983 :: Ass.own 3 (Kd.int .i64) A28774 C28775 x28773 :: Ass.own 24 (Kd.slice (Kd.int .i64)) (some ⟨g20173, 0, none⟩) 2 l20174 :: os) (Ro.sl (Kd.int .i64) A28365 C28366 (l20174.getD x23240.toNat []) :: Ro.sl (Kd.int .i64) A28365 C28366 (l20174.getD x23240.toNat []) :: Ro.sl (Kd.int .i64) A28365 C28366 (l20174.getD x23240.toNat []) :: Ro.sl (Kd.int .i64) A28365 C28366 (l20174.getD x23240.toNat []) :: Ro.sl (Kd.int .i64) A28365 C28366 (l20174.getD x23240.toNat []) :: Ro.sl (Kd.int .i64) A28365 C28366 (l20174.getD x23240.toNat []) :: Ro.sl (Kd.int .i64) A20058 C20059 x20057 :: Ro.sl (Kd.int .i64) A13 C14 l12 :: Ro.sl (Kd.int .u8) A16 C17 l15 :: rs) := hS.re [] [] rfl (sub_cons 0 rfl sub_self)
                            obtain ⟨t29370, hc29371, H⟩ := b1_out H
                            refine EL.of (EO.callD 40 [.slice A28365 (l20174.getD x23240.toNat []).length C28366, .int .i64 (l28983.getD x29114.toNat 0), .int .i64 (mn (mx a20 (-5)) 1048576), .int .i64 (mn (mx a21 (-5)) 1048576)] _ 124 (by kernel_rfl) (by kernel_rfl) (by kernel_rfl) (table_Slots.calls hc29371 hS) ?_)
                            rintro v w ⟨rfl, hS⟩
                            refine EL.quick 4 [2, 3, 6, 17, 18, 20, 24, 58, 59, 60, 95, 96, 97, 109, 110, 111, 112, 113, 114, 115, 116, 117, 119, 120, 121, 122, 123, 124, 125, 126, 127, 128] [(2, .int .i64 a18), (3, .int .i64 a19), (6, .int .u8 a22), (17, .int .i64 (mn (mx a20 (-5)) 1048576)), (18, .int .i64 (mn (mx a21 (-5)) 1048576)), (20, .slice A28365 (l20174.getD x23240.toNat []).length C28366), (24, .int .i64 (l28983.getD x29114.toNat 0)), (58, .slice (some ⟨g20173, 0, none⟩) l20174.length 2), (59, .int .i64 (l20174.length : Int)), (60, .int .i64 x23240), (95, .slice (some ⟨g28982, 0, none⟩) l28983.length 2), (96, .int .i64 (l28983.length : Int)), (97, .int .i64 x29114), (109, .slice A28365 (l20174.getD x23240.toNat []).length C28366), (110, .int .i64 (l28983.getD x29114.toNat 0)), (111, .int .i64 (mn (mx a20 (-5)) 1048576)), (112, .int .i64 t29365), (113, .slice A28365 (l20174.getD x23240.toNat []).length C28366), (114, .int .i64 (l28983.getD x29114.toNat 0)), (115, .int .i64 (mn (mx a20 (-5)) 1048576)), (116, .int .i64 t29367), (117, .bool (false)), (119, .bool (false)), (120, .slice A28365 (l20174.getD x23240.toNat []).length C28366), (121, .int .i64 (l28983.getD x29114.toNat 0)), (122, .int .i64 (mn (mx a20 (-5)) 1048576)), (123, .int .i64 (mn (mx a21 (-5)) 1048576)), (124, .int .i64 t29370), (125, .slice A28365 (l20174.getD x23240.toNat []).length C28366), (126, .int .i64 (l28983.getD x29114.toNat 0)), (127, .int .i64 (mn (mx a20 (-5)) 1048576)), (128, .int .i64 (mn (mx a21 (-5)) 1048576))] (by kernel_rfl) ?_
                            have hS : St B _ (Ass.own 3 (Kd.int .i64) (some ⟨g28982, 0, none⟩) 2 l28983 :: Ass.own 3 (Kd.int .i64) A28774 C28775 x28773 :: Ass.own 24 (Kd.slice (Kd.int .i64)) (some ⟨g20173, 0, none⟩) 2 l20174 :: os) (Ro.sl (Kd.int .i64) A28365 C28366 (l20174.getD x23240.toNat []) :: Ro.sl (Kd.int .i64) A28365 C28366 (l20174.getD x23240.toNat []) :: Ro.sl (Kd.int .i64) A28365 C28366 (l20174.getD x23240.toNat []) :: Ro.sl (Kd.int .i64) A28365 C28366 (l20174.getD x23240.toNat []) :: Ro.sl (Kd.int .i64) A28365 C28366 (l20174.getD x23240.toNat []) :: Ro.sl (Kd.int .i64) A28365 C28366 (l20174.getD x23240.toNat []) :: Ro.sl (Kd.int .i64) A28365 C28366 (l20174.getD x23240.toNat []) :: Ro.sl (Kd.int .i64) A20058 C20059 x20057 :: Ro.sl (Kd.int .i64) A13 C14 l12 :: Ro.sl (Kd.int .u8) A16 C17 l15 :: rs) := hS.re [] [] rfl (sub_cons 0 rfl sub_self)
                            obtain ⟨t29372, hc29373, H⟩ := b1_out H
                            refine EL.of (EO.callD 41 [.slice A28365 (l20174.getD x23240.toNat []).length C28366, .int .i64 (l28983.getD x29114.toNat 0), .int .i64 (mn (mx a20 (-5)) 1048576), .int .i64 (mn (mx a21 (-5)) 1048576)] _ 129 (by kernel_rfl) (by kernel_rfl) (by kernel_rfl) (confidantref15_Slots.calls hc29373 hS) ?_)
                            rintro v w ⟨rfl, hS⟩
                            refine EL.quick 3 [2, 3, 6, 17, 18, 20, 24, 58, 59, 60, 95, 96, 97, 109, 110, 111, 112, 113, 114, 115, 116, 117, 120, 121, 122, 123, 124, 125, 126, 127, 128, 129, 130, 132] [(2, .int .i64 a18), (3, .int .i64 a19), (6, .int .u8 a22), (17, .int .i64 (mn (mx a20 (-5)) 1048576)), (18, .int .i64 (mn (mx a21 (-5)) 1048576)), (20, .slice A28365 (l20174.getD x23240.toNat []).length C28366), (24, .int .i64 (l28983.getD x29114.toNat 0)), (58, .slice (some ⟨g20173, 0, none⟩) l20174.length 2), (59, .int .i64 (l20174.length : Int)), (60, .int .i64 x23240), (95, .slice (some ⟨g28982, 0, none⟩) l28983.length 2), (96, .int .i64 (l28983.length : Int)), (97, .int .i64 x29114), (109, .slice A28365 (l20174.getD x23240.toNat []).length C28366), (110, .int .i64 (l28983.getD x29114.toNat 0)), (111, .int .i64 (mn (mx a20 (-5)) 1048576)), (112, .int .i64 t29365), (113, .slice A28365 (l20174.getD x23240.toNat []).length C28366), (114, .int .i64 (l28983.getD x29114.toNat 0)), (115, .int .i64 (mn (mx a20 (-5)) 1048576)), (116, .int .i64 t29367), (117, .bool (false)), (120, .slice A28365 (l20174.getD x23240.toNat []).length C28366), (121, .int .i64 (l28983.getD x29114.toNat 0)), (122, .int .i64 (mn (mx a20 (-5)) 1048576)), (123, .int .i64 (mn (mx a21 (-5)) 1048576)), (124, .int .i64 t29370), (125, .slice A28365 (l20174.getD x23240.toNat []).length C28366), (126, .int .i64 (l28983.getD x29114.toNat 0)), (127, .int .i64 (mn (mx a20 (-5)) 1048576)), (128, .int .i64 (mn (mx a21 (-5)) 1048576)), (129, .int .i64 t29372), (130, .bool (!(decide (t29370 = t29372)))), (132, .bool (!(decide (t29370 = t29372))))] (by kernel_rfl) ?_
                            by_cases h29374 : t29370 = t29372
                            · rw [if_pos h29374] at H
                              refine EL.keep [2, 3, 6, 17, 18, 20, 24, 58, 59, 60, 95, 96, 97, 109, 110, 111, 112, 113, 114, 115, 116, 117, 120, 121, 122, 123, 124, 125, 126, 127, 128, 129, 130, 132] [(2, .int .i64 a18), (3, .int .i64 a19), (6, .int .u8 a22), (17, .int .i64 (mn (mx a20 (-5)) 1048576)), (18, .int .i64 (mn (mx a21 (-5)) 1048576)), (20, .slice A28365 (l20174.getD x23240.toNat []).length C28366), (24, .int .i64 (l28983.getD x29114.toNat 0)), (58, .slice (some ⟨g20173, 0, none⟩) l20174.length 2), (59, .int .i64 (l20174.length : Int)), (60, .int .i64 x23240), (95, .slice (some ⟨g28982, 0, none⟩) l28983.length 2), (96, .int .i64 (l28983.length : Int)), (97, .int .i64 x29114), (109, .slice A28365 (l20174.getD x23240.toNat []).length C28366), (110, .int .i64 (l28983.getD x29114.toNat 0)), (111, .int .i64 (mn (mx a20 (-5)) 1048576)), (112, .int .i64 t29365), (113, .slice A28365 (l20174.getD x23240.toNat []).length C28366), (114, .int .i64 (l28983.getD x29114.toNat 0)), (115, .int .i64 (mn (mx a20 (-5)) 1048576)), (116, .int .i64 t29367), (117, .bool (false)), (120, .slice A28365 (l20174.getD x23240.toNat []).length C28366), (121, .int .i64 (l28983.getD x29114.toNat 0)), (122, .int .i64 (mn (mx a20 (-5)) 1048576)), (123, .int .i64 (mn (mx a21 (-5)) 1048576)), (124, .int .i64 t29370), (125, .slice A28365 (l20174.getD x23240.toNat []).length C28366), (126, .int .i64 (l28983.getD x29114.toNat 0)), (127, .int .i64 (mn (mx a20 (-5)) 1048576)), (128, .int .i64 (mn (mx a21 (-5)) 1048576)), (129, .int .i64 t29372), (130, .bool (!(decide (t29370 = t29372)))), (132, .bool (!(decide (t29370 = t29372))))] (by kernel_rfl) ?_
                              refine EL.as' [(2, .int .i64 a18), (3, .int .i64 a19), (6, .int .u8 a22), (17, .int .i64 (mn (mx a20 (-5)) 1048576)), (18, .int .i64 (mn (mx a21 (-5)) 1048576)), (20, .slice A28365 (l20174.getD x23240.toNat []).length C28366), (24, .int .i64 (l28983.getD x29114.toNat 0)), (58, .slice (some ⟨g20173, 0, none⟩) l20174.length 2), (59, .int .i64 (l20174.length : Int)), (60, .int .i64 x23240), (95, .slice (some ⟨g28982, 0, none⟩) l28983.length 2), (96, .int .i64 (l28983.length : Int)), (97, .int .i64 x29114), (109, .slice A28365 (l20174.getD x23240.toNat []).length C28366), (110, .int .i64 (l28983.getD x29114.toNat 0)), (111, .int .i64 (mn (mx a20 (-5)) 1048576)), (112, .int .i64 t29365), (113, .slice A28365 (l20174.getD x23240.toNat []).length C28366), (114, .int .i64 (l28983.getD x29114.toNat 0)), (115, .int .i64 (mn (mx a20 (-5)) 1048576)), (116, .int .i64 t29367), (117, .bool (false)), (120, .slice A28365 (l20174.getD x23240.toNat []).length C28366), (121, .int .i64 (l28983.getD x29114.toNat 0)), (122, .int .i64 (mn (mx a20 (-5)) 1048576)), (123, .int .i64 (mn (mx a21 (-5)) 1048576)), (124, .int .i64 t29370), (125, .slice A28365 (l20174.getD x23240.toNat []).length C28366), (126, .int .i64 (l28983.getD x29114.toNat 0)), (127, .int .i64 (mn (mx a20 (-5)) 1048576)), (128, .int .i64 (mn (mx a21 (-5)) 1048576)), (129, .int .i64 t29372), (130, .bool (false)), (132, .bool (false))] (by simp only [dec_t h29374, Bool.not_true, Bool.not_false]) ?_
                              refine EL.quick 10 [2, 3, 6, 17, 18, 20, 24, 58, 59, 60, 95, 96, 97, 109, 110, 111, 112, 113, 114, 115, 116, 117, 120, 121, 122, 123, 124, 125, 126, 127, 128, 129, 130, 132, 133, 134, 135, 136, 137, 138, 139, 140, 141, 142] [(2, .int .i64 a18), (3, .int .i64 a19), (6, .int .u8 a22), (17, .int .i64 (mn (mx a20 (-5)) 1048576)), (18, .int .i64 (mn (mx a21 (-5)) 1048576)), (20, .slice A28365 (l20174.getD x23240.toNat []).length C28366), (24, .int .i64 (l28983.getD x29114.toNat 0)), (58, .slice (some ⟨g20173, 0, none⟩) l20174.length 2), (59, .int .i64 (l20174.length : Int)), (60, .int .i64 x23240), (95, .slice (some ⟨g28982, 0, none⟩) l28983.length 2), (96, .int .i64 (l28983.length : Int)), (97, .int .i64 x29114), (109, .slice A28365 (l20174.getD x23240.toNat []).length C28366), (110, .int .i64 (l28983.getD x29114.toNat 0)), (111, .int .i64 (mn (mx a20 (-5)) 1048576)), (112, .int .i64 t29365), (113, .slice A28365 (l20174.getD x23240.toNat []).length C28366), (114, .int .i64 (l28983.getD x29114.toNat 0)), (115, .int .i64 (mn (mx a20 (-5)) 1048576)), (116, .int .i64 t29367), (117, .bool (false)), (120, .slice A28365 (l20174.getD x23240.toNat []).length C28366), (121, .int .i64 (l28983.getD x29114.toNat 0)), (122, .int .i64 (mn (mx a20 (-5)) 1048576)), (123, .int .i64 (mn (mx a21 (-5)) 1048576)), (124, .int .i64 t29370), (125, .slice A28365 (l20174.getD x23240.toNat []).length C28366), (126, .int .i64 (l28983.getD x29114.toNat 0)), (127, .int .i64 (mn (mx a20 (-5)) 1048576)), (128, .int .i64 (mn (mx a21 (-5)) 1048576)), (129, .int .i64 t29372), (130, .bool (false)), (132, .bool (false)), (133, .slice A28365 (l20174.getD x23240.toNat []).length C28366), (134, .int .i64 (l28983.getD x29114.toNat 0)), (135, .int .u8 a22), (136, .int .i64 (IntKind.i64.wrap a22)), (137, .int .u8 a22), (138, .int .i64 (IntKind.i64.wrap a22)), (139, .int .u8 a22), (140, .int .u8 (IntKind.u8.wrap (Int.tdiv a22 3))), (141, .int .i64 (IntKind.i64.wrap (IntKind.u8.wrap (Int.tdiv a22 3)))), (142, .int .i64 (IntKind.i64.wrap ((IntKind.i64.wrap a22) + (IntKind.i64.wrap (IntKind.u8.wrap (Int.tdiv a22 3))))))] (by kernel_rfl) ?_
                              have hS : St B _ (Ass.own 3 (Kd.int .i64) (some ⟨g28982, 0, none⟩) 2 l28983 :: Ass.own 3 (Kd.int .i64) A28774 C28775 x28773 :: Ass.own 24 (Kd.slice (Kd.int .i64)) (some ⟨g20173, 0, none⟩) 2 l20174 :: os) (Ro.sl (Kd.int .i64) A28365 C28366 (l20174.getD x23240.toNat []) :: Ro.sl (Kd.int .i64) A28365 C28366 (l20174.getD x23240.toNat []) :: Ro.sl (Kd.int .i64) A28365 C28366 (l20174.getD x23240.toNat []) :: Ro.sl (Kd.int .i64) A28365 C28366 (l20174.getD x23240.toNat []) :: Ro.sl (Kd.int .i64) A28365 C28366 (l20174.getD x23240.toNat []) :: Ro.sl (Kd.int .i64) A28365 C28366 (l20174.getD x23240.toNat []) :: Ro.sl (Kd.int .i64) A28365 C28366 (l20174.getD x23240.toNat []) :: Ro.sl (Kd.int .i64) A28365 C28366 (l20174.getD x23240.toNat []) :: Ro.sl (Kd.int .i64) A20058 C20059 x20057 :: Ro.sl (Kd.int .i64) A13 C14 l12 :: Ro.sl (Kd.int .u8) A16 C17 l15 :: rs) := hS.re [] [] rfl (sub_cons 0 rfl sub_self)
                              obtain ⟨t29375, hc29376, H⟩ := b1_out H
                              refine EL.of (EO.callD 40 [.slice A28365 (l20174.getD x23240.toNat []).length C28366, .int .i64 (l28983.getD x29114.toNat 0), .int .i64 (IntKind.i64.wrap a22), .int .i64 (IntKind.i64.wrap ((IntKind.i64.wrap a22) + (IntKind.i64.wrap (IntKind.u8.wrap (Int.tdiv a22 3)))))] _ 143 (by kernel_rfl) (by kernel_rfl) (by kernel_rfl) (table_Slots.calls hc29376 hS) ?_)
                              rintro v w ⟨rfl, hS⟩
                              refine EL.quick 10 [2, 3, 6, 17, 18, 20, 58, 59, 60, 95, 96, 97, 109, 110, 111, 112, 113, 114, 115, 116, 117, 120, 121, 122, 123, 124, 125, 126, 127, 128, 129, 130, 132, 133, 134, 135, 136, 137, 138, 139, 140, 141, 142, 143, 144, 145, 146, 147, 148, 149, 150, 151, 152, 153] [(2, .int .i64 a18), (3, .int .i64 a19), (6, .int .u8 a22), (17, .int .i64 (mn (mx a20 (-5)) 1048576)), (18, .int .i64 (mn (mx a21 (-5)) 1048576)), (20, .slice A28365 (l20174.getD x23240.toNat []).length C28366), (58, .slice (some ⟨g20173, 0, none⟩) l20174.length 2), (59, .int .i64 (l20174.length : Int)), (60, .int .i64 x23240), (95, .slice (some ⟨g28982, 0, none⟩) l28983.length 2), (96, .int .i64 (l28983.length : Int)), (97, .int .i64 x29114), (109, .slice A28365 (l20174.getD x23240.toNat []).length C28366), (110, .int .i64 (l28983.getD x29114.toNat 0)), (111, .int .i64 (mn (mx a20 (-5)) 1048576)), (112, .int .i64 t29365), (113, .slice A28365 (l20174.getD x23240.toNat []).length C28366), (114, .int .i64 (l28983.getD x29114.toNat 0)), (115, .int .i64 (mn (mx a20 (-5)) 1048576)), (116, .int .i64 t29367), (117, .bool (false)), (120, .slice A28365 (l20174.getD x23240.toNat []).length C28366), (121, .int .i64 (l28983.getD x29114.toNat 0)), (122, .int .i64 (mn (mx a20 (-5)) 1048576)), (123, .int .i64 (mn (mx a21 (-5)) 1048576)), (124, .int .i64 t29370), (125, .slice A28365 (l20174.getD x23240.toNat []).length C28366), (126, .int .i64 (l28983.getD x29114.toNat 0)), (127, .int .i64 (mn (mx a20 (-5)) 1048576)), (128, .int .i64 (mn (mx a21 (-5)) 1048576)), (129, .int .i64 t29372), (130, .bool (false)), (132, .bool (false)), (133, .slice A28365 (l20174.getD x23240.toNat []).length C28366), (134, .int .i64 (l28983.getD x29114.toNat 0)), (135, .int .u8 a22), (136, .int .i64 (IntKind.i64.wrap a22)), (137, .int .u8 a22), (138, .int .i64 (IntKind.i64.wrap a22)), (139, .int .u8 a22), (140, .int .u8 (IntKind.u8.wrap (Int.tdiv a22 3))), (141, .int .i64 (IntKind.i64.wrap (IntKind.u8.wrap (Int.tdiv a22 3)))), (142, .int .i64 (IntKind.i64.wrap ((IntKind.i64.wrap a22) + (IntKind.i64.wrap (IntKind.u8.wrap (Int.tdiv a22 3)))))), (143, .int .i64 t29375), (144, .slice A28365 (l20174.getD x23240.toNat []).length C28366), (145, .int .i64 (l28983.getD x29114.toNat 0)), (146, .int .u8 a22), (147, .int .i64 (IntKind.i64.wrap a22)), (148, .int .u8 a22), (149, .int .i64 (IntKind.i64.wrap a22)), (150, .int .u8 a22), (151, .int .u8 (IntKind.u8.wrap (Int.tdiv a22 3))), (152, .int .i64 (IntKind.i64.wrap (IntKind.u8.wrap (Int.tdiv a22 3)))), (153, .int .i64 (IntKind.i64.wrap ((IntKind.i64.wrap a22) + (IntKind.i64.wrap (IntKind.u8.wrap (Int.tdiv a22 3))))))] (by kernel_rfl) ?_
                              have hS : St B _ (Ass.own 3 (Kd.int .i64) (some ⟨g28982, 0, none⟩) 2 l28983 :: Ass.own 3 (Kd.int .i64) A28774 C28775 x28773 :: Ass.own 24 (Kd.slice (Kd.int .i64)) (some ⟨g20173, 0, none⟩) 2 l20174 :: os) (Ro.sl (Kd.int .i64) A28365 C28366 (l20174.getD x23240.toNat []) :: Ro.sl (Kd.int .i64) A28365 C28366 (l20174.getD x23240.toNat []) :: Ro.sl (Kd.int .i64) A28365 C28366 (l20174.getD x23240.toNat []) :: Ro.sl (Kd.int .i64) A28365 C28366 (l20174.getD x23240.toNat []) :: Ro.sl (Kd.int .i64) A28365 C28366 (l20174.getD x23240.toNat []) :: Ro.sl (Kd.int .i64) A28365 C28366 (l20174.getD x23240.toNat []) :: Ro.sl (Kd.int .i64) A28365 C28366 (l20174.getD x23240.toNat []) :: Ro.sl (Kd.int .i64) A28365 C28366 (l20174.getD x23240.toNat []) :: Ro.sl (Kd.int .i64) A28365 C28366 (l20174.getD x23240.toNat []) :: Ro.sl (Kd.int .i64) A20058 C20059 x20057 :: Ro.sl (Kd.int .i64) A13 C14 l12 :: Ro.sl (Kd.int .u8) A16 C17 l15 :: rs) := hS.re [] [] rfl (sub_cons 0 rfl sub_self)
                              obtain ⟨t29377, hc29378, H⟩ := b1_out H
                              refine EL.of (EO.callD 41 [.slice A28365 (l20174.getD x23240.toNat []).length C28366, .int .i64 (l28983.getD x29114.toNat 0), .int .i64 (IntKind.i64.wrap a22), .int .i64 (IntKind.i64.wrap ((IntKind.i64.wrap a22) + (IntKind.i64.wrap (IntKind.u8.wrap (Int.tdiv a22 3)))))] _ 154 (by kernel_rfl) (by kernel_rfl) (by kernel_rfl) (confidantref15_Slots.calls hc29378 hS) ?_)
                              rintro v w ⟨rfl, hS⟩
                              refine EL.quick 2 [2, 3, 6, 17, 18, 20, 58, 59, 60, 95, 96, 97, 109, 110, 111, 112, 113, 114, 115, 116, 117, 120, 121, 122, 123, 124, 125, 126, 127, 128, 129, 130, 133, 134, 135, 136, 137, 138, 139, 140, 141, 142, 143, 144, 145, 146, 147, 148, 149, 150, 151, 152, 153, 154, 155, 156] [(2, .int .i64 a18), (3, .int .i64 a19), (6, .int .u8 a22), (17, .int .i64 (mn (mx a20 (-5)) 1048576)), (18, .int .i64 (mn (mx a21 (-5)) 1048576)), (20, .slice A28365 (l20174.getD x23240.toNat []).length C28366), (58, .slice (some ⟨g20173, 0, none⟩) l20174.length 2), (59, .int .i64 (l20174.length : Int)), (60, .int .i64 x23240), (95, .slice (some ⟨g28982, 0, none⟩) l28983.length 2), (96, .int .i64 (l28983.length : Int)), (97, .int .i64 x29114), (109, .slice A28365 (l20174.getD x23240.toNat []).length C28366), (110, .int .i64 (l28983.getD x29114.toNat 0)), (111, .int .i64 (mn (mx a20 (-5)) 1048576)), (112, .int .i64 t29365), (113, .slice A28365 (l20174.getD x23240.toNat []).length C28366), (114, .int .i64 (l28983.getD x29114.toNat 0)), (115, .int .i64 (mn (mx a20 (-5)) 1048576)), (116, .int .i64 t29367), (117, .bool (false)), (120, .slice A28365 (l20174.getD x23240.toNat []).length C28366), (121, .int .i64 (l28983.getD x29114.toNat 0)), (122, .int .i64 (mn (mx a20 (-5)) 1048576)), (123, .int .i64 (mn (mx a21 (-5)) 1048576)), (124, .int .i64 t29370), (125, .slice A28365 (l20174.getD x23240.toNat []).length C28366), (126, .int .i64 (l28983.getD x29114.toNat 0)), (127, .int .i64 (mn (mx a20 (-5)) 1048576)), (128, .int .i64 (mn (mx a21 (-5)) 1048576)), (129, .int .i64 t29372), (130, .bool (false)), (133, .slice A28365 (l20174.getD x23240.toNat []).length C28366), (134, .int .i64 (l28983.getD x29114.toNat 0)), (135, .int .u8 a22), (136, .int .i64 (IntKind.i64.wrap a22)), (137, .int .u8 a22), (138, .int .i64 (IntKind.i64.wrap a22)), (139, .int .u8 a22), (140, .int .u8 (IntKind.u8.wrap (Int.tdiv a22 3))), (141, .int .i64 (IntKind.i64.wrap (IntKind.u8.wrap (Int.tdiv a22 3)))), (142, .int .i64 (IntKind.i64.wrap ((IntKind.i64.wrap a22) + (IntKind.i64.wrap (IntKind.u8.wrap (Int.tdiv a22 3)))))), (143, .int .i64 t29375), (144, .slice A28365 (l20174.getD x23240.toNat []).length C28366), (145, .int .i64 (l28983.getD x29114.toNat 0)), (146, .int .u8 a22), (147, .int .i64 (IntKind.i64.wrap a22)), (148, .int .u8 a22), (149, .int .i64 (IntKind.i64.wrap a22)), (150, .int .u8 a22), (151, .int .u8 (IntKind.u8.wrap (Int.tdiv a22 3))), (152, .int .i64 (IntKind.i64.wrap (IntKind.u8.wrap (Int.tdiv a22 3)))), (153, .int .i64 (IntKind.i64.wrap ((IntKind.i64.wrap a22) + (IntKind.i64.wrap (IntKind.u8.wrap (Int.tdiv a22 3)))))), (154, .int .i64 t29377), (155, .bool (!(decide (t29375 = t29377)))), (156, .bool (!(decide (t29375 = t29377))))] (by kernel_rfl) ?_
                              obtain ⟨y29379, hy29379, H⟩ := lt_out H
                              refine EL.keep [2, 3, 6, 17, 18, 20, 58, 59, 60, 95, 96, 97, 109, 110, 111, 112, 113, 114, 115, 116, 117, 120, 121, 122, 123, 124, 125, 126, 127, 128, 129, 130, 133, 134, 135, 136, 137, 138, 139, 140, 141, 142, 143, 144, 145, 146, 147, 148, 149, 150, 151, 152, 153, 154, 155, 156] [(2, .int .i64 a18), (3, .int .i64 a19), (6, .int .u8 a22), (17, .int .i64 (mn (mx a20 (-5)) 1048576)), (18, .int .i64 (mn (mx a21 (-5)) 1048576)), (20, .slice A28365 (l20174.getD x23240.toNat []).length C28366), (58, .slice (some ⟨g20173, 0, none⟩) l20174.length 2), (59, .int .i64 (l20174.length : Int)), (60, .int .i64 x23240), (95, .slice (some ⟨g28982, 0, none⟩) l28983.length 2), (96, .int .i64 (l28983.length : Int)), (97, .int .i64 x29114), (109, .slice A28365 (l20174.getD x23240.toNat []).length C28366), (110, .int .i64 (l28983.getD x29114.toNat 0)), (111, .int .i64 (mn (mx a20 (-5)) 1048576)), (112, .int .i64 t29365), (113, .slice A28365 (l20174.getD x23240.toNat []).length C28366), (114, .int .i64 (l28983.getD x29114.toNat 0)), (115, .int .i64 (mn (mx a20 (-5)) 1048576)), (116, .int .i64 t29367), (117, .bool (false)), (120, .slice A28365 (l20174.getD x23240.toNat []).length C28366), (121, .int .i64 (l28983.getD x29114.toNat 0)), (122, .int .i64 (mn (mx a20 (-5)) 1048576)), (123, .int .i64 (mn (mx a21 (-5)) 1048576)), (124, .int .i64 t29370), (125, .slice A28365 (l20174.getD x23240.toNat []).length C28366), (126, .int .i64 (l28983.getD x29114.toNat 0)), (127, .int .i64 (mn (mx a20 (-5)) 1048576)), (128, .int .i64 (mn (mx a21 (-5)) 1048576)), (129, .int .i64 t29372), (130, .bool (false)), (133, .slice A28365 (l20174.getD x23240.toNat []).length C28366), (134, .int .i64 (l28983.getD x29114.toNat 0)), (135, .int .u8 a22), (136, .int .i64 (IntKind.i64.wrap a22)), (137, .int .u8 a22), (138, .int .i64 (IntKind.i64.wrap a22)), (139, .int .u8 a22), (140, .int .u8 (IntKind.u8.wrap (Int.tdiv a22 3))), (141, .int .i64 (IntKind.i64.wrap (IntKind.u8.wrap (Int.tdiv a22 3)))), (142, .int .i64 (IntKind.i64.wrap ((IntKind.i64.wrap a22) + (IntKind.i64.wrap (IntKind.u8.wrap (Int.tdiv a22 3)))))), (143, .int .i64 t29375), (144, .slice A28365 (l20174.getD x23240.toNat []).length C28366), (145, .int .i64 (l28983.getD x29114.toNat 0)), (146, .int .u8 a22), (147, .int .i64 (IntKind.i64.wrap a22)), (148, .int .u8 a22), (149, .int .i64 (IntKind.i64.wrap a22)), (150, .int .u8 a22), (151, .int .u8 (IntKind.u8.wrap (Int.tdiv a22 3))), (152, .int .i64 (IntKind.i64.wrap (IntKind.u8.wrap (Int.tdiv a22 3)))), (153, .int .i64 (IntKind.i64.wrap ((IntKind.i64.wrap a22) + (IntKind.i64.wrap (IntKind.u8.wrap (Int.tdiv a22 3)))))), (154, .int .i64 t29377), (155, .bool (!(decide (t29375 = t29377)))), (156, .bool (!(decide (t29375 = t29377))))] (by kernel_rfl) ?_
                              refine EL.as' [(2, .int .i64 a18), (3, .int .i64 a19), (6, .int .u8 a22), (17, .int .i64 (mn (mx a20 (-5)) 1048576)), (18, .int .i64 (mn (mx a21 (-5)) 1048576)), (20, .slice A28365 (l20174.getD x23240.toNat []).length C28366), (58, .slice (some ⟨g20173, 0, none⟩) l20174.length 2), (59, .int .i64 (l20174.length : Int)), (60, .int .i64 x23240), (95, .slice (some ⟨g28982, 0, none⟩) l28983.length 2), (96, .int .i64 (l28983.length : Int)), (97, .int .i64 x29114), (109, .slice A28365 (l20174.getD x23240.toNat []).length C28366), (110, .int .i64 (l28983.getD x29114.toNat 0)), (111, .int .i64 (mn (mx a20 (-5)) 1048576)), (112, .int .i64 t29365), (113, .slice A28365 (l20174.getD x23240.toNat []).length C28366), (114, .int .i64 (l28983.getD x29114.toNat 0)), (115, .int .i64 (mn (mx a20 (-5)) 1048576)), (116, .int .i64 t29367), (117, .bool (false)), (120, .slice A28365 (l20174.getD x23240.toNat []).length C28366), (121, .int .i64 (l28983.getD x29114.toNat 0)), (122, .int .i64 (mn (mx a20 (-5)) 1048576)), (123, .int .i64 (mn (mx a21 (-5)) 1048576)), (124, .int .i64 t29370), (125, .slice A28365 (l20174.getD x23240.toNat []).length C28366), (126, .int .i64 (l28983.getD x29114.toNat 0)), (127, .int .i64 (mn (mx a20 (-5)) 1048576)), (128, .int .i64 (mn (mx a21 (-5)) 1048576)), (129, .int .i64 t29372), (130, .bool (false)), (133, .slice A28365 (l20174.getD x23240.toNat []).length C28366), (134, .int .i64 (l28983.getD x29114.toNat 0)), (135, .int .u8 a22), (136, .int .i64 (IntKind.i64.wrap a22)), (137, .int .u8 a22), (138, .int .i64 (IntKind.i64.wrap a22)), (139, .int .u8 a22), (140, .int .u8 (IntKind.u8.wrap (Int.tdiv a22 3))), (141, .int .i64 (IntKind.i64.wrap (IntKind.u8.wrap (Int.tdiv a22 3)))), (142, .int .i64 y29379), (143, .int .i64 t29375), (144, .slice A28365 (l20174.getD x23240.toNat []).length C28366), (145, .int .i64 (l28983.getD x29114.toNat 0)), (146, .int .u8 a22), (147, .int .i64 (IntKind.i64.wrap a22)), (148, .int .u8 a22), (149, .int .i64 (IntKind.i64.wrap a22)), (150, .int .u8 a22), (151, .int .u8 (IntKind.u8.wrap (Int.tdiv a22 3))), (152, .int .i64 (IntKind.i64.wrap (IntKind.u8.wrap (Int.tdiv a22 3)))), (153, .int .i64 y29379), (154, .int .i64 t29377), (155, .bool (!(decide (t29375 = t29377)))), (156, .bool (!(decide (t29375 = t29377))))] (by subst hy29379; rfl) ?_
                              refine EL.done (by kernel_rfl) ?_
                              refine EQ.to ?_
                              refine EQ.keep [2, 3, 6, 17, 18, 20, 58, 59, 60, 95, 96, 97, 156] [(2, .int .i64 a18), (3, .int .i64 a19), (6, .int .u8 a22), (17, .int .i64 (mn (mx a20 (-5)) 1048576)), (18, .int .i64 (mn (mx a21 (-5)) 1048576)), (20, .slice A28365 (l20174.getD x23240.toNat []).length C28366), (58, .slice (some ⟨g20173, 0, none⟩) l20174.length 2), (59, .int .i64 (l20174.length : Int)), (60, .int .i64 x23240), (95, .slice (some ⟨g28982, 0, none⟩) l28983.length 2), (96, .int .i64 (l28983.length : Int)), (97, .int .i64 x29114), (156, .bool (!(decide (t29375 = t29377))))] (by kernel_rfl) ?_
                              exact fun a ha => ⟨!(decide (t29375 = t29377)), ha, (hS.re [2, 2, 2] [] rfl (sub_cons 0 rfl (sub_cons 0 rfl (sub_cons 0 rfl (sub_cons 0 rfl (sub_cons 0 rfl (sub_cons 0 rfl (sub_cons 0 rfl (sub_cons 0 rfl (sub_cons 0 rfl (sub_cons 9 rfl (sub_cons 10 rfl (sub_cons 11 rfl (sub_tail (sub_tail (sub_tail (sub_tail (sub_tail (sub_tail (sub_tail (sub_tail (sub_tail (sub_tail (sub_tail (sub_tail (sub_self)))))))))))))))))))))))))), H⟩
                            · rw [if_neg h29374] at H
                              refine EL.keep [2, 3, 6, 17, 18, 20, 24, 58, 59, 60, 95, 96, 97, 109, 110, 111, 112, 113, 114, 115, 116, 117, 120, 121, 122, 123, 124, 125, 126, 127, 128, 129, 130, 132] [(2, .int .i64 a18), (3, .int .i64 a19), (6, .int .u8 a22), (17, .int .i64 (mn (mx a20 (-5)) 1048576)), (18, .int .i64 (mn (mx a21 (-5)) 1048576)), (20, .slice A28365 (l20174.getD x23240.toNat []).length C28366), (24, .int .i64 (l28983.getD x29114.toNat 0)), (58, .slice (some ⟨g20173, 0, none⟩) l20174.length 2), (59, .int .i64 (l20174.length : Int)), (60, .int .i64 x23240), (95, .slice (some ⟨g28982, 0, none⟩) l28983.length 2), (96, .int .i64 (l28983.length : Int)), (97, .int .i64 x29114), (109, .slice A28365 (l20174.getD x23240.toNat []).length C28366), (110, .int .i64 (l28983.getD x29114.toNat 0)), (111, .int .i64 (mn (mx a20 (-5)) 1048576)), (112, .int .i64 t29365), (113, .slice A28365 (l20174.getD x23240.toNat []).length C28366), (114, .int .i64 (l28983.getD x29114.toNat 0)), (115, .int .i64 (mn (mx a20 (-5)) 1048576)), (116, .int .i64 t29367), (117, .bool (false)), (120, .slice A28365 (l20174.getD x23240.toNat []).length C28366), (121, .int .i64 (l28983.getD x29114.toNat 0)), (122, .int .i64 (mn (mx a20 (-5)) 1048576)), (123, .int .i64 (mn (mx a21 (-5)) 1048576)), (124, .int .i64 t29370), (125, .slice A28365 (l20174.getD x23240.toNat []).length C28366), (126, .int .i64 (l28983.getD x29114.toNat 0)), (127, .int .i64 (mn (mx a20 (-5)) 1048576)), (128, .int .i64 (mn (mx a21 (-5)) 1048576)), (129, .int .i64 t29372), (130, .bool (!(decide (t29370 = t29372)))), (132, .bool (!(decide (t29370 = t29372))))] (by kernel_rfl) ?_
                              refine EL.as' [(2, .int .i64 a18), (3, .int .i64 a19), (6, .int .u8 a22), (17, .int .i64 (mn (mx a20 (-5)) 1048576)), (18, .int .i64 (mn (mx a21 (-5)) 1048576)), (20, .slice A28365 (l20174.getD x23240.toNat []).length C28366), (24, .int .i64 (l28983.getD x29114.toNat 0)), (58, .slice (some ⟨g20173, 0, none⟩) l20174.length 2), (59, .int .i64 (l20174.length : Int)), (60, .int .i64 x23240), (95, .slice (some ⟨g28982, 0, none⟩) l28983.length 2), (96, .int .i64 (l28983.length : Int)), (97, .int .i64 x29114), (109, .slice A28365 (l20174.getD x23240.toNat []).length C28366), (110, .int .i64 (l28983.getD x29114.toNat 0)), (111, .int .i64 (mn (mx a20 (-5)) 1048576)), (112, .int .i64 t29365), (113, .slice A28365 (l20174.getD x23240.toNat []).length C28366), (114, .int .i64 (l28983.getD x29114.toNat 0)), (115, .int .i64 (mn (mx a20 (-5)) 1048576)), (116, .int .i64 t29367), (117, .bool (false)), (120, .slice A28365 (l20174.getD x23240.toNat []).length C28366), (121, .int .i64 (l28983.getD x29114.toNat 0)), (122, .int .i64 (mn (mx a20 (-5)) 1048576)), (123, .int .i64 (mn (mx a21 (-5)) 1048576)), (124, .int .i64 t29370), (125, .slice A28365 (l20174.getD x23240.toNat []).length C28366), (126, .int .i64 (l28983.getD x29114.toNat 0)), (127, .int .i64 (mn (mx a20 (-5)) 1048576)), (128, .int .i64 (mn (mx a21 (-5)) 1048576)), (129, .int .i64 t29372), (130, .bool (true)), (132, .bool (true))] (by simp only [dec_f h29374, Bool.not_true, Bool.not_false]) ?_
                              refine EL.quick 24 [2, 3, 6, 17, 18, 20, 58, 59, 60, 95, 96, 97, 109, 110, 111, 112, 113, 114, 115, 116, 117, 120, 121, 122, 123, 124, 125, 126, 127, 128, 129, 130, 156] [(2, .int .i64 a18), (3, .int .i64 a19), (6, .int .u8 a22), (17, .int .i64 (mn (mx a20 (-5)) 1048576)), (18, .int .i64 (mn (mx a21 (-5)) 1048576)), (20, .slice A28365 (l20174.getD x23240.toNat []).length C28366), (58, .slice (some ⟨g20173, 0, none⟩) l20174.length 2), (59, .int .i64 (l20174.length : Int)), (60, .int .i64 x23240), (95, .slice (some ⟨g28982, 0, none⟩) l28983.length 2), (96, .int .i64 (l28983.length : Int)), (97, .int .i64 x29114), (109, .slice A28365 (l20174.getD x23240.toNat []).length C28366), (110, .int .i64 (l28983.getD x29114.toNat 0)), (111, .int .i64 (mn (mx a20 (-5)) 1048576)), (112, .int .i64 t29365), (113, .slice A28365 (l20174.getD x23240.toNat []).length C28366), (114, .int .i64 (l28983.getD x29114.toNat 0)), (115, .int .i64 (mn (mx a20 (-5)) 1048576)), (116, .int .i64 t29367), (117, .bool (false)), (120, .slice A28365 (l20174.getD x23240.toNat []).length C28366), (121, .int .i64 (l28983.getD x29114.toNat 0)), (122, .int .i64 (mn (mx a20 (-5)) 1048576)), (123, .int .i64 (mn (mx a21 (-5)) 1048576)), (124, .int .i64 t29370), (125, .slice A28365 (l20174.getD x23240.toNat []).length C28366), (126, .int .i64 (l28983.getD x29114.toNat 0)), (127, .int .i64 (mn (mx a20 (-5)) 1048576)), (128, .int .i64 (mn (mx a21 (-5)) 1048576)), (129, .int .i64 t29372), (130, .bool (true)), (156, .bool (true))] (by kernel_rfl) ?_
                              refine EL.done (by kernel_rfl) ?_
                              refine EQ.to ?_
                              refine EQ.keep [2, 3, 6, 17, 18, 20, 58, 59, 60, 95, 96, 97, 156] [(2, .int .i64 a18), (3, .int .i64 a19), (6, .int .u8 a22), (17, .int .i64 (mn (mx a20 (-5)) 1048576)), (18, .int .i64 (mn (mx a21 (-5)) 1048576)), (20, .slice A28365 (l20174.getD x23240.toNat []).length C28366), (58, .slice (some ⟨g20173, 0, none⟩) l20174.length 2), (59, .int .i64 (l20174.length : Int)), (60, .int .i64 x23240), (95, .slice (some ⟨g28982, 0, none⟩) l28983.length 2), (96, .int .i64 (l28983.length : Int)), (97, .int .i64 x29114), (156, .bool (true))] (by kernel_rfl) ?_
                              exact fun a ha => ⟨true, ha, (hS.re [2, 2, 2] [] rfl (sub_cons 0 rfl (sub_cons 0 rfl (sub_cons 0 rfl (sub_cons 0 rfl (sub_cons 0 rfl (sub_cons 0 rfl (sub_cons 0 rfl (sub_cons 0 rfl (sub_cons 0 rfl (sub_cons 7 rfl (sub_cons 8 rfl (sub_cons 9 rfl (sub_tail (sub_tail (sub_tail (sub_tail (sub_tail (sub_tail (sub_tail (sub_tail (sub_tail (sub_tail (sub_self)))))))))))))))))))))))), H⟩
                          · rw [if_neg h29369] at H
                            refine EL.keep [2, 3, 6, 17, 18, 20, 24, 58, 59, 60, 95, 96, 97, 109, 110, 111, 112, 113, 114, 115, 116, 117, 119] [(2, .int .i64 a18), (3, .int .i64 a19), (6, .int .u8 a22), (17, .int .i64 (mn (mx a20 (-5)) 1048576)), (18, .int .i64 (mn (mx a21 (-5)) 1048576)), (20, .slice A28365 (l20174.getD x23240.toNat []).length C28366), (24, .int .i64 (l28983.getD x29114.toNat 0)), (58, .slice (some ⟨g20173, 0, none⟩) l20174.length 2), (59, .int .i64 (l20174.length : Int)), (60, .int .i64 x23240), (95, .slice (some ⟨g28982, 0, none⟩) l28983.length 2), (96, .int .i64 (l28983.length : Int)), (97, .int .i64 x29114), (109, .slice A28365 (l20174.getD x23240.toNat []).length C28366), (110, .int .i64 (l28983.getD x29114.toNat 0)), (111, .int .i64 (mn (mx a20 (-5)) 1048576)), (112, .int .i64 t29365), (113, .slice A28365 (l20174.getD x23240.toNat []).length C28366), (114, .int .i64 (l28983.getD x29114.toNat 0)), (115, .int .i64 (mn (mx a20 (-5)) 1048576)), (116, .int .i64 t29367), (117, .bool (!(decide (t29365 = t29367)))), (119, .bool (!(decide (t29365 = t29367))))] (by kernel_rfl) ?_
                            refine EL.as' [(2, .int .i64 a18), (3, .int .i64 a19), (6, .int .u8 a22), (17, .int .i64 (mn (mx a20 (-5)) 1048576)), (18, .int .i64 (mn (mx a21 (-5)) 1048576)), (20, .slice A28365 (l20174.getD x23240.toNat []).length C28366), (24, .int .i64 (l28983.getD x29114.toNat 0)), (58, .slice (some ⟨g20173, 0, none⟩) l20174.length 2), (59, .int .i64 (l20174.length : Int)), (60, .int .i64 x23240), (95, .slice (some ⟨g28982, 0, none⟩) l28983.length 2), (96, .int .i64 (l28983.length : Int)), (97, .int .i64 x29114), (109, .slice A28365 (l20174.getD x23240.toNat []).length C28366), (110, .int .i64 (l28983.getD x29114.toNat 0)), (111, .int .i64 (mn (mx a20 (-5)) 1048576)), (112, .int .i64 t29365), (113, .slice A28365 (l20174.getD x23240.toNat []).length C28366), (114, .int .i64 (l28983.getD x29114.toNat 0)), (115, .int .i64 (mn (mx a20 (-5)) 1048576)), (116, .int .i64 t29367), (117, .bool (true)), (119, .bool (true))] (by simp only [dec_f h29369, Bool.not_true, Bool.not_false]) ?_
                            refine EL.quick 37 [2, 3, 6, 17, 18, 20, 58, 59, 60, 95, 96, 97, 109, 110, 111, 112, 113, 114, 115, 116, 117, 156] [(2, .int .i64 a18), (3, .int .i64 a19), (6, .int .u8 a22), (17, .int .i64 (mn (mx a20 (-5)) 1048576)), (18, .int .i64 (mn (mx a21 (-5)) 1048576)), (20, .slice A28365 (l20174.getD x23240.toNat []).length C28366), (58, .slice (some ⟨g20173, 0, none⟩) l20174.length 2), (59, .int .i64 (l20174.length : Int)), (60, .int .i64 x23240), (95, .slice (some ⟨g28982, 0, none⟩) l28983.length 2), (96, .int .i64 (l28983.length : Int)), (97, .int .i64 x29114), (109, .slice A28365 (l20174.getD x23240.toNat []).length C28366), (110, .int .i64 (l28983.getD x29114.toNat 0)), (111, .int .i64 (mn (mx a20 (-5)) 1048576)), (112, .int .i64 t29365), (113, .slice A28365 (l20174.getD x23240.toNat []).length C28366), (114, .int .i64 (l28983.getD x29114.toNat 0)), (115, .int .i64 (mn (mx a20 (-5)) 1048576)), (116, .int .i64 t29367), (117, .bool (true)), (156, .bool (true))] (by kernel_rfl) ?_
                            refine EL.done (by kernel_rfl) ?_
                            refine EQ.to ?_
                            refine EQ.keep [2, 3, 6, 17, 18, 20, 58, 59, 60, 95, 96, 97, 156] [(2, .int .i64 a18), (3, .int .i64 a19), (6, .int .u8 a22), (17, .int .i64 (mn (mx a20 (-5)) 1048576)), (18, .int .i64 (mn (mx a21 (-5)) 1048576)), (20, .slice A28365 (l20174.getD x23240.toNat []).length C28366), (58, .slice (some ⟨g20173, 0, none⟩) l20174.length 2), (59, .int .i64 (l20174.length : Int)), (60, .int .i64 x23240), (95, .slice (some ⟨g28982, 0, none⟩) l28983.length 2), (96, .int .i64 (l28983.length : Int)), (97, .int .i64 x29114), (156, .bool (true))] (by kernel_rfl) ?_
                            exact fun a ha => ⟨true, ha, (hS.re [2, 2, 2] [] rfl (sub_cons 0 rfl (sub_cons 0 rfl (sub_cons 0 rfl (sub_cons 0 rfl (sub_cons 0 rfl (sub_cons 0 rfl (sub_cons 0 rfl (sub_cons 0 rfl (sub_cons 0 rfl (sub_cons 5 rfl (sub_cons 6 rfl (sub_cons 7 rfl (sub_tail (sub_tail (sub_tail (sub_tail (sub_tail (sub_tail (sub_tail (sub_tail (sub_self)))))))))))))))))))))), H⟩
                        · rw [if_neg h29364] at H
                          refine EL.keep [2, 3, 6, 17, 18, 20, 24, 58, 59, 60, 95, 96, 97, 108] [(2, .int .i64 a18), (3, .int .i64 a19), (6, .int .u8 a22), (17, .int .i64 (mn (mx a20 (-5)) 1048576)), (18, .int .i64 (mn (mx a21 (-5)) 1048576)), (20, .slice A28365 (l20174.getD x23240.toNat []).length C28366), (24, .int .i64 (l28983.getD x29114.toNat 0)), (58, .slice (some ⟨g20173, 0, none⟩) l20174.length 2), (59, .int .i64 (l20174.length : Int)), (60, .int .i64 x23240), (95, .slice (some ⟨g28982, 0, none⟩) l28983.length 2), (96, .int .i64 (l28983.length : Int)), (97, .int .i64 x29114), (108, .bool (!(decide (t29360 = t29362))))] (by kernel_rfl) ?_
                          refine EL.as' [(2, .int .i64 a18), (3, .int .i64 a19), (6, .int .u8 a22), (17, .int .i64 (mn (mx a20 (-5)) 1048576)), (18, .int .i64 (mn (mx a21 (-5)) 1048576)), (20, .slice A28365 (l20174.getD x23240.toNat []).length C28366), (24, .int .i64 (l28983.getD x29114.toNat 0)), (58, .slice (some ⟨g20173, 0, none⟩) l20174.length 2), (59, .int .i64 (l20174.length : Int)), (60, .int .i64 x23240), (95, .slice (some ⟨g28982, 0, none⟩) l28983.length 2), (96, .int .i64 (l28983.length : Int)), (97, .int .i64 x29114), (108, .bool (true))] (by simp only [dec_f h29364, Bool.not_true, Bool.not_false]) ?_
                          refine EL.quick 48 [2, 3, 6, 17, 18, 20, 58, 59, 60, 95, 96, 97, 156] [(2, .int .i64 a18), (3, .int .i64 a19), (6, .int .u8 a22), (17, .int .i64 (mn (mx a20 (-5)) 1048576)), (18, .int .i64 (mn (mx a21 (-5)) 1048576)), (20, .slice A28365 (l20174.getD x23240.toNat []).length C28366), (58, .slice (some ⟨g20173, 0, none⟩) l20174.length 2), (59, .int .i64 (l20174.length : Int)), (60, .int .i64 x23240), (95, .slice (some ⟨g28982, 0, none⟩) l28983.length 2), (96, .int .i64 (l28983.length : Int)), (97, .int .i64 x29114), (156, .bool (true))] (by kernel_rfl) ?_
                          refine EL.done (by kernel_rfl) ?_
                          refine EQ.to ?_
                          refine EQ.keep [2, 3, 6, 17, 18, 20, 58, 59, 60, 95, 96, 97, 156] [(2, .int .i64 a18), (3, .int .i64 a19), (6, .int .u8 a22), (17, .int .i64 (mn (mx a20 (-5)) 1048576)), (18, .int .i64 (mn (mx a21 (-5)) 1048576)), (20, .slice A28365 (l20174.getD x23240.toNat []).length C28366), (58, .slice (some ⟨g20173, 0, none⟩) l20174.length 2), (59, .int .i64 (l20174.length : Int)), (60, .int .i64 x23240), (95, .slice (some ⟨g28982, 0, none⟩) l28983.length 2), (96, .int .i64 (l28983.length : Int)), (97, .int .i64 x29114), (156, .bool (true))] (by kernel_rfl) ?_
                          exact fun a ha => ⟨true, ha, (hS.re [2, 2, 2] [] rfl (sub_cons 0 rfl (sub_cons 0 rfl (sub_cons 0 rfl (sub_cons 0 rfl (sub_cons 0 rfl (sub_cons 0 rfl (sub_cons 0 rfl (sub_cons 0 rfl (sub_cons 0 rfl (sub_cons 3 rfl (sub_cons 4 rfl (sub_cons 5 rfl (sub_tail (sub_tail (sub_tail (sub_tail (sub_tail (sub_tail (sub_self)))))))))))))))))))), H⟩
                      · obtain ⟨x29358, ha, hS, H⟩ := hI
                        rw [hj29359] at H
                        (try dsimp only at H)
                        refine EW.at ?_ a ha
                        clear ha a
                        refine EW.condP' (o := (.tmp 156)) (x := C7.r.r.r.r.r.r.l.r.l.l.r.r.l.l.r.r.r.l.l.r.r.l.l.r.r.l) (y := C7.r.r.r.r.r.r.l.r.l.l.r.r.l.l.r.r.r.l.l.r.r.l.l.r.r.r) (x29358) (by kernel_rfl) (by kernel_rfl) (fun h29380 => ?_) (fun h29380 => ?_)
                        · rw [if_pos h29380] at H
                          refine EW.seq (x := C7.r.r.r.r.r.r.l.r.l.l.r.r.l.l.r.r.r.l.l.r.r.l.l.r.r.l.l) (y := C7.r.r.r.r.r.r.l.r.l.l.r.r.l.l.r.r.r.l.l.r.r.l.l.r.r.l.r) (by kernel_rfl) ?_
                          refine EW.region (id := 24) (ops := C7.r.r.r.r.r.r.l.r.l.l.r.r.l.l.r.r.r.l.l.r.r.l.l.r.r.l.l.ops) (by kernel_rfl) ?_
                          refine EL.quick 1 [14] [(14, .bool (false))] (by kernel_rfl) ?_
                          refine EL.done (by kernel_rfl) ?_
                          refine EQ.code ?_
                          refine EW.ret (by kernel_rfl) ?_
                          refine EQ.ret ?_
                          refine EQ.ret ?_
                          refine EQ.ret ?_
                          refine EQ.ret ?_
                          refine EQ.ret ?_
                          refine EQ.ret ?_
                          refine EQ.ret ?_
                          refine EQ.ret ?_
                          refine EQ.ret ?_
                          obtain rfl := Option.some.inj H
                          exact EQ.leave (.bool (false)) (by kernel_rfl) ⟨_, rfl, rfl, (hS.re [] [0, 0, 0] rfl (sub_tail (sub_tail (sub_tail (sub_tail (sub_tail (sub_tail (sub_tail (sub_tail (sub_tail (sub_tail (sub_self))))))))))))⟩
                        · rw [if_neg h29380] at H
                          refine EW.skip (by kernel_rfl) ?_
                          refine EQ.pop ?_
                          refine EQ.code ?_
                          refine EW.region (id := 25) (ops := C7.r.r.r.r.r.r.l.r.l.l.r.r.l.l.r.r.r.l.l.r.r.r.ops) (by kernel_rfl) ?_
                          refine EL.quick 2 [2, 3, 6, 17, 18, 20, 58, 59, 60, 95, 96, 97] [(2, .int .i64 a18), (3, .int .i64 a19), (6, .int .u8 a22), (17, .int .i64 (mn (mx a20 (-5)) 1048576)), (18, .int .i64 (mn (mx a21 (-5)) 1048576)), (20, .slice A28365 (l20174.getD x23240.toNat []).length C28366), (58, .slice (some ⟨g20173, 0, none⟩) l20174.length 2), (59, .int .i64 (l20174.length : Int)), (60, .int .i64 x23240), (95, .slice (some ⟨g28982, 0, none⟩) l28983.length 2), (96, .int .i64 (l28983.length : Int)), (97, .int .i64 (IntKind.i64.wrap (x29114 + 1)))] (by kernel_rfl) ?_
                          refine EL.done (by kernel_rfl) ?_
                          refine EQ.to ?_
                          refine EQ.keep [2, 3, 6, 17, 18, 20, 58, 59, 60, 95, 96, 97] [(2, .int .i64 a18), (3, .int .i64 a19), (6, .int .u8 a22), (17, .int .i64 (mn (mx a20 (-5)) 1048576)), (18, .int .i64 (mn (mx a21 (-5)) 1048576)), (20, .slice A28365 (l20174.getD x23240.toNat []).length C28366), (58, .slice (some ⟨g20173, 0, none⟩) l20174.length 2), (59, .int .i64 (l20174.length : Int)), (60, .int .i64 x23240), (95, .slice (some ⟨g28982, 0, none⟩) l28983.length 2), (96, .int .i64 (l28983.length : Int)), (97, .int .i64 (IntKind.i64.wrap (x29114 + 1)))] (by kernel_rfl) ?_
                          exact fun a ha => ⟨n, Nat.lt_succ_self n, IntKind.i64.wrap (x29114 + 1), ha, (hS.re [2, 2, 2] [] rfl (sub_cons 0 rfl (sub_cons 9 rfl (sub_cons 10 rfl (sub_cons 11 rfl (sub_tail (sub_tail (sub_tail (sub_tail (sub_tail (sub_tail (sub_tail (sub_tail (sub_tail (sub_tail (sub_tail (sub_tail (sub_self)))))))))))))))))), H⟩
                    · rw [if_neg h29250] at H
                      refine EW.exit (id := 6) (by kernel_rfl) ?_
                      refine EQ.exitCode ?_
                      refine EQ.exitTo ?_
                      refine EQ.exitHere ?_
                      refine EQ.pop ?_
                      refine EQ.to ?_
                      refine EQ.keep [2, 3, 6, 17, 18, 58, 59, 60] [(2, .int .i64 a18), (3, .int .i64 a19), (6, .int .u8 a22), (17, .int .i64 (mn (mx a20 (-5)) 1048576)), (18, .int .i64 (mn (mx a21 (-5)) 1048576)), (58, .slice (some ⟨g20173, 0, none⟩) l20174.length 2), (59, .int .i64 (l20174.length : Int)), (60, .int .i64 x23240)] (by kernel_rfl) ?_
                      exact fun a ha => ⟨l28983, x28773, (some ⟨g28982, 0, none⟩), 2, A28774, C28775, ha, (hS.re [2, 2, 2] [] rfl (sub_cons 1 rfl (sub_cons 2 rfl (sub_cons 3 rfl (sub_tail (sub_tail (sub_tail (sub_tail (sub_self))))))))), H⟩
              · obtain ⟨x28354, x28357, A28355, C28356, A28358, C28359, ha, hS, H⟩ := hI
                rw [hj28360] at H
                (try dsimp only at H)
                refine EW.at ?_ a ha
                clear ha a
                refine EW.region (id := 26) (ops := C7.r.r.r.r.r.r.l.r.l.l.r.r.r.ops) (by kernel_rfl) ?_
                refine EL.quick 2 [2, 3, 6, 17, 18, 58, 59, 60] [(2, .int .i64 a18), (3, .int .i64 a19), (6, .int .u8 a22), (17, .int .i64 (mn (mx a20 (-5)) 1048576)), (18, .int .i64 (mn (mx a21 (-5)) 1048576)), (58, .slice (some ⟨g20173, 0, none⟩) l20174.length 2), (59, .int .i64 (l20174.length : Int)), (60, .int .i64 (IntKind.i64.wrap (x23240 + 1)))] (by kernel_rfl) ?_
                refine EL.done (by kernel_rfl) ?_
                refine EQ.to ?_
                refine EQ.keep [2, 3, 6, 17, 18, 58, 59, 60] [(2, .int .i64 a18), (3, .int .i64 a19), (6, .int .u8 a22), (17, .int .i64 (mn (mx a20 (-5)) 1048576)), (18, .int .i64 (mn (mx a21 (-5)) 1048576)), (58, .slice (some ⟨g20173, 0, none⟩) l20174.length 2), (59, .int .i64 (l20174.length : Int)), (60, .int .i64 (IntKind.i64.wrap (x23240 + 1)))] (by kernel_rfl) ?_
                exact fun a ha => ⟨n, Nat.lt_succ_self n, IntKind.i64.wrap (x23240 + 1), ha, (hS.re [2] [1, 1] rfl (sub_cons 0 rfl (sub_cons 1 rfl (sub_cons 2 rfl (sub_tail (sub_tail (sub_tail (sub_self)))))))), H⟩
            · rw [if_neg h26313] at H
              refine EW.exit (id := 2) (by kernel_rfl) ?_
              refine EQ.exitCode ?_
              refine EQ.exitTo ?_
              refine EQ.exitHere ?_
              refine EQ.code ?_
              refine EW.seq (x := C7.r.r.r.r.r.r.r.l) (y := C7.r.r.r.r.r.r.r.r) (by kernel_rfl) ?_
              refine EW.region (id := 27) (ops := C7.r.r.r.r.r.r.r.l.ops) (by kernel_rfl) ?_
              refine EL.quick 1 [14] [(14, .bool (true))] (by kernel_rfl) ?_
              refine EL.done (by kernel_rfl) ?_
              refine EQ.code ?_
              refine EW.ret (by kernel_rfl) ?_
              obtain rfl := Option.some.inj H
              exact EQ.leave (.bool (true)) (by kernel_rfl) ⟨_, rfl, rfl, (hS.re [] [0] rfl (sub_tail (sub_self)))⟩
  · rw [if_neg h19828] at H
    refine EW.seq (x := C7.r.l.r.l.l) (y := C7.r.l.r.l.r) (by kernel_rfl) ?_
    refine EW.region (id := 2) (ops := C7.r.l.r.l.l.ops) (by kernel_rfl) ?_
    refine EL.quick 1 [14] [(14, .bool (false))] (by kernel_rfl) ?_
    refine EL.done (by kernel_rfl) ?_
    refine EQ.code ?_
    refine EW.ret (by kernel_rfl) ?_
    refine EQ.ret ?_
    obtain rfl := Option.some.inj H
    exact EQ.leave (.bool (false)) (by kernel_rfl) ⟨_, rfl, rfl, (hS.re [] [] rfl (sub_self))⟩

def confidantlaw18_TableTells.Pure : Prop := ∀ (l12 : List Int) (l15 : List Int) (a18 : Int) (a19 : Int) (a20 : Int) (a21 : Int) (a22 : Int), l12.length * 8 ≤ 140737488351232 → (∀ x ∈ l12, (Lit.int .i64 x).wf = true) → l15.length * 1 ≤ 140737488351232 → (∀ x ∈ l15, (Lit.int .u8 x).wf = true) → (Lit.int .i64 a18).wf = true → (Lit.int .i64 a19).wf = true → (Lit.int .i64 a20).wf = true → (Lit.int .i64 a21).wf = true → (Lit.int .u8 a22).wf = true → ∃ K, confidantlaw18_TableTells.f K l12 l15 a18 a19 a20 a21 a22 = some true

noncomputable def C8 : Code := bodyOf Try.f8

/-! ### confidant/confidantlaw18.TableShares: function 8 -/
def confidantlaw18_TableShares.l0 (K : Nat) (l7 : List Int) (a10 : Int) (j1513 : (List Int) → Int → Option Bool) : Nat → (List Int) → Int → Int → Option Bool
  | 0, _, _, _ => none
  | n + 1, x1659, x1663, x1664 => if x1664 < (l7.length : Int) then (lt (fun (x1773 : List Int) (x1776 : List Int) (x1779 : Int) => (confidantlaw18_TableShares.l0 K l7 a10 j1513 n x1776 x1779 (IntKind.i64.wrap (x1664 + 1)))) fun j1780 => (if 0 ≤ x1664 then (lt ([IntKind.i64.wrap (Int.tmod (l7.getD x1664.toNat 0) 5)] : List Int) fun l1792 => (if (x1659.length + l1792.length) * 8 ≤ 140737488355328 then (lt (x1659 ++ l1792) fun l1794 => (if (Int.tmod (l7.getD x1664.toNat 0) 5) = (Int.tmod a10 5) then (j1780 l1792 l1794 (IntKind.i64.wrap (x1663 + 1))) else (j1780 l1792 l1794 x1663))) else none)) else none)) else (j1513 x1659 x1663)
def confidantlaw18_TableShares.f (K : Nat) (l7 : List Int) (a10 : Int) (a11 : Int) (a12 : Int) : Option Bool := b1 (confidantlaw18_known.f K) fun (t924 : Bool) => (if t924 = true then (lt (fun (x935 : Bool) => (if x935 = true then (some true) else (lt (fun (x1507 : List Int) (x1512 : Int) => (b1 (table_Next.f K x1507 (IntKind.i64.wrap (Int.tmod a10 5)) (IntKind.i64.wrap a11)) fun (t1800 : Int) => (if x1512 = 0 then (if t1800 = (-1) then (b1 (table_Slots.f K x1507 (IntKind.i64.wrap (Int.tmod a10 5)) (IntKind.i64.wrap a11) (IntKind.i64.wrap ((IntKind.i64.wrap a11) + 1000))) fun (t1808 : Int) => (some (decide (t1808 = 0)))) else (some false)) else (if t1800 ≥ (IntKind.i64.wrap a11) then (if t1800 < (IntKind.i64.wrap ((IntKind.i64.wrap a11) + (x1507.length : Int))) then (b1 (table_At.f K x1507 t1800) fun (t1812 : Int) => (if t1812 = (IntKind.i64.wrap (Int.tmod a10 5)) then (b1 (table_Slots.f K x1507 (IntKind.i64.wrap (Int.tmod a10 5)) (IntKind.i64.wrap a11) t1800) fun (t1815 : Int) => (if t1815 = 0 then (b1 (table_Slots.f K x1507 (IntKind.i64.wrap (Int.tmod a10 5)) (IntKind.i64.wrap a11) (IntKind.i64.wrap ((IntKind.i64.wrap a11) + (IntKind.i64.wrap ((IntKind.i64.wrap a12) * (x1507.length : Int)))))) fun (t1818 : Int) => (some (decide (t1818 = (IntKind.i64.wrap ((IntKind.i64.wrap a12) * x1512)))))) else (some false))) else (some false))) else (some false)) else (some false))))) fun j1513 => (confidantlaw18_TableShares.l0 K l7 a10 j1513 K ([] : List Int) 0 0)))) fun j936 => (if (l7.length : Int) > 64 then (j936 true) else (j936 (decide ((l7.length : Int) = 0))))) else (some false))
set_option maxRecDepth 100000 in
theorem confidantlaw18_TableShares.calls {K : Nat} {l7 : List Int} {a10 : Int} {a11 : Int} {a12 : Int} {A8 : Option Addr} {C9 : Nat} {x916 : Bool} {B w : World} {os : List Ass} {rs : List Ro} (H : confidantlaw18_TableShares.f K l7 a10 a11 a12 = some x916) (hS : St B w (os) (Ro.sl (Kd.int .u8) A8 C9 l7 :: rs)) :
    Calls Try.prog 8 [.slice A8 l7.length C9, .int .u8 a10, .int .u16 a11, .int .u8 a12].toArray w (fun en w' => ∃ v, en = .returned v ∧ v = .bool (x916) ∧ St B w' (os) (Ro.sl (Kd.int .u8) A8 C9 l7 :: rs)) := by
  unfold confidantlaw18_TableShares.f at H
  refine calls_of_EW (args := [.slice A8 l7.length C9, .int .u8 a10, .int .u16 a11, .int .u8 a12]) (c := C8) 116 Try.func8 (by kernel_rfl) (by kernel_rfl) (by kernel_rfl) ?_
  refine EW.seq (x := C8.l) (y := C8.r) (by kernel_rfl) ?_
  refine EW.region (id := 0) (ops := C8.l.ops) (by kernel_rfl) ?_
  refine EL.quick 1 [0, 1, 2, 3] [(0, .slice A8 l7.length C9), (1, .int .u8 a10), (2, .int .u16 a11), (3, .int .u8 a12)] (by kernel_rfl) ?_
  refine EL.done (by kernel_rfl) ?_
  refine EQ.code ?_
  refine EW.seq (x := C8.r.l) (y := C8.r.r) (by kernel_rfl) ?_
  refine EW.seq (x := C8.r.l.l) (y := C8.r.l.r) (by kernel_rfl) ?_
  refine EW.region (id := 1) (ops := C8.r.l.l.ops) (by kernel_rfl) ?_
  obtain ⟨t924, hc925, H⟩ := b1_out H
  refine EL.of (EO.callD 31 [] _ 15 (by kernel_rfl) (by kernel_rfl) (by kernel_rfl) (confidantlaw18_known.calls hc925 hS) ?_)
  rintro v w ⟨rfl, hS⟩
  refine EL.quick 1 [0, 1, 2, 3, 16] [(0, .slice A8 l7.length C9), (1, .int .u8 a10), (2, .int .u16 a11), (3, .int .u8 a12), (16, .bool (!(t924)))] (by kernel_rfl) ?_
  refine EL.done (by kernel_rfl) ?_
  refine EQ.code ?_
  refine EW.condQ (b := !(t924)) (o := (.tmp 16)) (x := C8.r.l.r.l) (y := C8.r.l.r.r) (t924 = true) (false) (by kernel_rfl) (by kernel_rfl) (by constructor <;> intro h <;> simp [h]) (fun h926 => ?_) (fun h926 => ?_)
  · rw [if_pos h926] at H
    refine EW.skip (by kernel_rfl) ?_
    refine EQ.code ?_
    refine EW.seq (x := C8.r.r.l) (y := C8.r.r.r) (by kernel_rfl) ?_
    obtain ⟨j936, hj936, H⟩ := lt_out H
    refine EW.cut (x := C8.r.r.l.l) (y := C8.r.r.l.r) (fun a w => ∃ x935 : Bool, Sat 116 [(0, .slice A8 l7.length C9), (1, .int .u8 a10), (2, .int .u16 a11), (3, .int .u8 a12), (24, .bool (x935))] a ∧ St B w (os) (Ro.sl (Kd.int .u8) A8 C9 l7 :: rs) ∧ j936 x935 = some x916) (by kernel_rfl) ?_ (fun a w hI => ?_)
    · refine EW.region (id := 3) (ops := C8.r.r.l.l.ops) (by kernel_rfl) ?_
      refine EL.quick 4 [0, 1, 2, 3, 20] [(0, .slice A8 l7.length C9), (1, .int .u8 a10), (2, .int .u16 a11), (3, .int .u8 a12), (20, .bool (decide ((l7.length : Int) > 64)))] (by kernel_rfl) ?_
      by_cases h937 : (l7.length : Int) > 64
      · rw [if_pos h937] at H
        refine EL.keep [0, 1, 2, 3, 20] [(0, .slice A8 l7.length C9), (1, .int .u8 a10), (2, .int .u16 a11), (3, .int .u8 a12), (20, .bool (decide ((l7.length : Int) > 64)))] (by kernel_rfl) ?_
        refine EL.as' [(0, .slice A8 l7.length C9), (1, .int .u8 a10), (2, .int .u16 a11), (3, .int .u8 a12), (20, .bool (true))] (by simp only [dec_t h937, Bool.not_true, Bool.not_false]) ?_
        refine EL.quick 4 [0, 1, 2, 3, 24] [(0, .slice A8 l7.length C9), (1, .int .u8 a10), (2, .int .u16 a11), (3, .int .u8 a12), (24, .bool (true))] (by kernel_rfl) ?_
        refine EL.done (by kernel_rfl) ?_
        refine EQ.to ?_
        refine EQ.keep [0, 1, 2, 3, 24] [(0, .slice A8 l7.length C9), (1, .int .u8 a10), (2, .int .u16 a11), (3, .int .u8 a12), (24, .bool (true))] (by kernel_rfl) ?_
        exact fun a ha => ⟨true, ha, (hS.re [] [] rfl (sub_cons 0 rfl (sub_tail (sub_self)))), H⟩
      · rw [if_neg h937] at H
        refine EL.keep [0, 1, 2, 3, 20] [(0, .slice A8 l7.length C9), (1, .int .u8 a10), (2, .int .u16 a11), (3, .int .u8 a12), (20, .bool (decide ((l7.length : Int) > 64)))] (by kernel_rfl) ?_
        refine EL.as' [(0, .slice A8 l7.length C9), (1, .int .u8 a10), (2, .int .u16 a11), (3, .int .u8 a12), (20, .bool (false))] (by simp only [dec_f h937, Bool.not_true, Bool.not_false]) ?_
        refine EL.quick 4 [0, 1, 2, 3, 24] [(0, .slice A8 l7.length C9), (1, .int .u8 a10), (2, .int .u16 a11), (3, .int .u8 a12), (24, .bool (decide ((l7.length : Int) = 0)))] (by kernel_rfl) ?_
        refine EL.done (by kernel_rfl) ?_
        refine EQ.to ?_
        refine EQ.keep [0, 1, 2, 3, 24] [(0, .slice A8 l7.length C9), (1, .int .u8 a10), (2, .int .u16 a11), (3, .int .u8 a12), (24, .bool (decide ((l7.length : Int) = 0)))] (by kernel_rfl) ?_
        exact fun a ha => ⟨decide ((l7.length : Int) = 0), ha, (hS.re [] [] rfl (sub_cons 0 rfl (sub_tail (sub_self)))), H⟩
    · obtain ⟨x935, ha, hS, H⟩ := hI
      rw [hj936] at H
      (try dsimp only at H)
      refine EW.at ?_ a ha
      clear ha a
      refine EW.condP' (o := (.tmp 24)) (x := C8.r.r.l.r.l) (y := C8.r.r.l.r.r) (x935) (by kernel_rfl) (by kernel_rfl) (fun h938 => ?_) (fun h938 => ?_)
      · rw [if_pos h938] at H
        refine EW.seq (x := C8.r.r.l.r.l.l) (y := C8.r.r.l.r.l.r) (by kernel_rfl) ?_
        refine EW.region (id := 4) (ops := C8.r.r.l.r.l.l.ops) (by kernel_rfl) ?_
        refine EL.quick 1 [8] [(8, .bool (true))] (by kernel_rfl) ?_
        refine EL.done (by kernel_rfl) ?_
        refine EQ.code ?_
        refine EW.ret (by kernel_rfl) ?_
        refine EQ.ret ?_
        obtain rfl := Option.some.inj H
        exact EQ.leave (.bool (true)) (by kernel_rfl) ⟨_, rfl, rfl, (hS.re [] [] rfl (sub_self))⟩
      · rw [if_neg h938] at H
        refine EW.skip (by kernel_rfl) ?_
        refine EQ.code ?_
        refine EW.seq (x := C8.r.r.r.l) (y := C8.r.r.r.r) (by kernel_rfl) ?_
        refine EW.region (id := 5) (ops := C8.r.r.r.l.ops) (by kernel_rfl) ?_
        refine EL.quick 1 [0, 1, 2, 3, 9] [(0, .slice A8 l7.length C9), (1, .int .u8 a10), (2, .int .u16 a11), (3, .int .u8 a12), (9, .slice none ([] : List Int).length 0)] (by kernel_rfl) ?_
        refine EL.done (by kernel_rfl) ?_
        refine EQ.code ?_
        refine EW.seq (x := C8.r.r.r.r.l) (y := C8.r.r.r.r.r) (by kernel_rfl) ?_
        refine EW.region (id := 6) (ops := C8.r.r.r.r.l.ops) (by kernel_rfl) ?_
        refine EL.quick 1 [0, 1, 2, 3, 9, 10] [(0, .slice A8 l7.length C9), (1, .int .u8 a10), (2, .int .u16 a11), (3, .int .u8 a12), (9, .slice none ([] : List Int).length 0), (10, .int .i64 0)] (by kernel_rfl) ?_
        refine EL.done (by kernel_rfl) ?_
        refine EQ.code ?_
        obtain ⟨j1513, hj1513, H⟩ := lt_out H
        refine EW.cut (x := C8.r.r.r.r.r.l) (y := C8.r.r.r.r.r.r) (fun a w => ∃ x1507 : List Int, ∃ x1512 : Int, ∃ A1508 : Option Addr, ∃ C1509 : Nat, Sat 116 [(1, .int .u8 a10), (2, .int .u16 a11), (3, .int .u8 a12), (9, .slice A1508 x1507.length C1509), (10, .int .i64 x1512)] a ∧ St B w (Ass.own 3 (Kd.int .i64) A1508 C1509 x1507 :: os) (Ro.sl (Kd.int .u8) A8 C9 l7 :: rs) ∧ j1513 x1507 x1512 = some x916) (by kernel_rfl) ?_ (fun a w hI => ?_)
        · refine EW.seq (x := C8.r.r.r.r.r.l.l) (y := C8.r.r.r.r.r.l.r) (by kernel_rfl) ?_
          refine EW.region (id := 7) (ops := C8.r.r.r.r.r.l.l.ops) (by kernel_rfl) ?_
          refine EL.quick 1 [0, 1, 2, 3, 9, 10, 11] [(0, .slice A8 l7.length C9), (1, .int .u8 a10), (2, .int .u16 a11), (3, .int .u8 a12), (9, .slice none ([] : List Int).length 0), (10, .int .i64 0), (11, .int .i64 0)] (by kernel_rfl) ?_
          refine EL.done (by kernel_rfl) ?_
          refine EQ.code ?_
          refine EW.block (x := C8.r.r.r.r.r.l.r.l) (id := 0) (by kernel_rfl) ?_
          have hS := St.nilO hS 3 (Kd.int .i64)
          refine EW.loop (x := C8.r.r.r.r.r.l.r.l.l) (fun n a w => ∃ x1659 : List Int, ∃ x1663 : Int, ∃ x1664 : Int, ∃ A1660 : Option Addr, ∃ C1661 : Nat, Sat 116 [(0, .slice A8 l7.length C9), (1, .int .u8 a10), (2, .int .u16 a11), (3, .int .u8 a12), (9, .slice A1660 x1659.length C1661), (10, .int .i64 x1663), (11, .int .i64 x1664)] a ∧ St B w (Ass.own 3 (Kd.int .i64) A1660 C1661 x1659 :: os) (Ro.sl (Kd.int .u8) A8 C9 l7 :: rs) ∧ confidantlaw18_TableShares.l0 K l7 a10 j1513 n x1659 x1663 x1664 = some x916) K (by kernel_rfl) ?_ (fun n a w hI => ?_)
          · refine EQ.keep [0, 1, 2, 3, 9, 10, 11] [(0, .slice A8 l7.length C9), (1, .int .u8 a10), (2, .int .u16 a11), (3, .int .u8 a12), (9, .slice none ([] : List Int).length 0), (10, .int .i64 0), (11, .int .i64 0)] (by kernel_rfl) ?_
            exact fun a ha => ⟨([] : List Int), 0, 0, none, 0, ha, (hS.re [0] [] rfl (sub_cons 0 rfl (sub_tail (sub_self)))), H⟩
          · obtain ⟨x1659, x1663, x1664, A1660, C1661, ha, hS, H⟩ := hI
            obtain _ | n := n
            · simp [confidantlaw18_TableShares.l0] at H
            rw [confidantlaw18_TableShares.l0.eq_2] at H
            refine EW.at ?_ a ha
            clear ha a
            refine EW.seq (x := C8.r.r.r.r.r.l.r.l.l.l) (y := C8.r.r.r.r.r.l.r.l.l.r) (by kernel_rfl) ?_
            refine EW.seq (x := C8.r.r.r.r.r.l.r.l.l.l.l) (y := C8.r.r.r.r.r.l.r.l.l.l.r) (by kernel_rfl) ?_
            refine EW.region (id := 8) (ops := C8.r.r.r.r.r.l.r.l.l.l.l.ops) (by kernel_rfl) ?_
            refine EL.quick 4 [0, 1, 2, 3, 9, 10, 11, 28] [(0, .slice A8 l7.length C9), (1, .int .u8 a10), (2, .int .u16 a11), (3, .int .u8 a12), (9, .slice A1660 x1659.length C1661), (10, .int .i64 x1663), (11, .int .i64 x1664), (28, .bool (decide (x1664 < (l7.length : Int))))] (by kernel_rfl) ?_
            refine EL.done (by kernel_rfl) ?_
            refine EQ.code ?_
            refine EW.condP (o := (.tmp 28)) (x := C8.r.r.r.r.r.l.r.l.l.l.r.l) (y := C8.r.r.r.r.r.l.r.l.l.l.r.r) (x1664 < (l7.length : Int)) (by kernel_rfl) (by kernel_rfl) (fun h1738 => ?_) (fun h1738 => ?_)
            · rw [if_pos h1738] at H
              refine EW.skip (by kernel_rfl) ?_
              refine EQ.code ?_
              obtain ⟨j1780, hj1780, H⟩ := lt_out H
              refine EW.cut (x := C8.r.r.r.r.r.l.r.l.l.r.l) (y := C8.r.r.r.r.r.l.r.l.l.r.r) (fun a w => ∃ x1773 : List Int, ∃ x1776 : List Int, ∃ x1779 : Int, ∃ A1774 : Option Addr, ∃ C1775 : Nat, ∃ A1777 : Option Addr, ∃ C1778 : Nat, Sat 116 [(0, .slice A8 l7.length C9), (1, .int .u8 a10), (2, .int .u16 a11), (3, .int .u8 a12), (9, .slice A1777 x1776.length C1778), (10, .int .i64 x1779), (11, .int .i64 x1664)] a ∧ St B w (Ass.own 3 (Kd.int .i64) A1774 C1775 x1773 :: Ass.own 3 (Kd.int .i64) A1777 C1778 x1776 :: os) (Ro.sl (Kd.int .u8) A8 C9 l7 :: rs) ∧ j1780 x1773 x1776 x1779 = some x916) (by kernel_rfl) ?_ (fun a w hI => ?_)
              · refine EW.block (x := C8.r.r.r.r.r.l.r.l.l.r.l.l) (id := 1) (by kernel_rfl) ?_
                refine EW.seq (x := C8.r.r.r.r.r.l.r.l.l.r.l.l.l) (y := C8.r.r.r.r.r.l.r.l.l.r.l.l.r) (by kernel_rfl) ?_
                refine EW.region (id := 10) (ops := C8.r.r.r.r.r.l.r.l.l.r.l.l.l.ops) (by kernel_rfl) ?_
                refine EL.quick 3 [0, 1, 2, 3, 10, 11, 31, 32, 33] [(0, .slice A8 l7.length C9), (1, .int .u8 a10), (2, .int .u16 a11), (3, .int .u8 a12), (10, .int .i64 x1663), (11, .int .i64 x1664), (31, .slice A1660 x1659.length C1661), (32, .slice A8 l7.length C9), (33, .int .i64 x1664)] (by kernel_rfl) ?_
                obtain ⟨h1789, H⟩ := ite_in H
                obtain ⟨ad1790, rfl⟩ := St.rd_some hS (Rd.ro 0 rfl) h1789 h1738
                refine EL.of (EO.Y (YO.idx 22 1 ad1790 l7.length C9 .i64 x1664 34 (by kernel_rfl) (by kernel_rfl) (by kernel_rfl) (by kernel_rfl) h1789 h1738) ?_)
                refine EL.of (EO.Y (YO.loadEl hS (Kd.int .u8) ad1790 C9 l7 (Rd.ro 0 rfl) 0 (encI .u8) encI_of x1664 h1789 h1738 5 1 0 1 rfl (.int .u8 (l7.getD x1664.toNat 0)) 35 (by kernel_rfl) (by kernel_rfl) (by kernel_rfl) (by kernel_rfl)) ?_)
                refine EL.quick 2 [0, 1, 2, 3, 10, 11, 31, 37] [(0, .slice (some ad1790) l7.length C9), (1, .int .u8 a10), (2, .int .u16 a11), (3, .int .u8 a12), (10, .int .i64 x1663), (11, .int .i64 x1664), (31, .slice A1660 x1659.length C1661), (37, .int .i64 (IntKind.i64.wrap (Int.tmod (l7.getD x1664.toNat 0) 5)))] (by kernel_rfl) ?_
                obtain ⟨l1792, hl1792, H⟩ := lt_out H
                refine EL.of (EO.lit hS (Kd.int .i64) 3 24 1 #[(0, .int .i64 (IntKind.i64.wrap (Int.tmod (l7.getD x1664.toNat 0) 5)))] [.int .i64 (IntKind.i64.wrap (Int.tmod (l7.getD x1664.toNat 0) 5))] l1792 38 (by kernel_rfl) (by kernel_rfl) (by kernel_rfl) (fun _ => (by kernel_rfl)) (by rw [hl1792]; rfl) (by kernel_rfl) (fun w G hr => (by rw [hl1792]; exact ⟨[.int .i64 (IntKind.i64.wrap (Int.tmod (l7.getD x1664.toNat 0) 5))], [], rfl, rfl, rfl⟩)) ?_)
                intro g1791 w hS
                obtain ⟨h1793, H⟩ := ite_in H
                obtain ⟨l1794, hl1794, H⟩ := lt_out H
                refine EL.of (EO.append hS 24 24 3 8 1 (Kd.int .i64) A1660 C1661 x1659 rfl (some ⟨g1791, 0, none⟩) 1 l1792 (Rd.own 0 3 rfl) l1794 hl1794 (fun A1795 C1796 => Ass.own 3 (Kd.int .i64) (some ⟨g1791, 0, none⟩) 1 l1792 :: Ass.own 3 (Kd.int .i64) A1795 C1796 l1794 :: os) 39 (by kernel_rfl) (by kernel_rfl) (by kernel_rfl) (by kernel_rfl) h1793 (fun _ _ => rfl) ?_)
                intro A1795 C1796 w hS
                refine EL.quick 1 [0, 1, 2, 3, 9, 10, 11] [(0, .slice (some ad1790) l7.length C9), (1, .int .u8 a10), (2, .int .u16 a11), (3, .int .u8 a12), (9, .slice A1795 l1794.length C1796), (10, .int .i64 x1663), (11, .int .i64 x1664)] (by kernel_rfl) ?_
                refine EL.done (by kernel_rfl) ?_
                refine EQ.code ?_
                refine EW.seq (x := C8.r.r.r.r.r.l.r.l.l.r.l.l.r.l) (y := C8.r.r.r.r.r.l.r.l.l.r.l.l.r.r) (by kernel_rfl) ?_
                refine EW.region (id := 11) (ops := C8.r.r.r.r.r.l.r.l.l.r.l.l.r.l.ops) (by kernel_rfl) ?_
                refine EL.quick 2 [0, 1, 2, 3, 9, 10, 11, 40, 41] [(0, .slice (some ad1790) l7.length C9), (1, .int .u8 a10), (2, .int .u16 a11), (3, .int .u8 a12), (9, .slice A1795 l1794.length C1796), (10, .int .i64 x1663), (11, .int .i64 x1664), (40, .slice (some ad1790) l7.length C9), (41, .int .i64 x1664)] (by kernel_rfl) ?_
                refine EL.of (EO.Y (YO.idx 22 1 ad1790 l7.length C9 .i64 x1664 42 (by kernel_rfl) (by kernel_rfl) (by kernel_rfl) (by kernel_rfl) h1789 h1738) ?_)
                refine EL.of (EO.Y (YO.loadEl hS (Kd.int .u8) ad1790 C9 l7 (Rd.ro 0 rfl) 0 (encI .u8) encI_of x1664 h1789 h1738 5 1 0 1 rfl (.int .u8 (l7.getD x1664.toNat 0)) 43 (by kernel_rfl) (by kernel_rfl) (by kernel_rfl) (by kernel_rfl)) ?_)
                refine EL.quick 4 [0, 1, 2, 3, 9, 10, 11, 47] [(0, .slice (some ad1790) l7.length C9), (1, .int .u8 a10), (2, .int .u16 a11), (3, .int .u8 a12), (9, .slice A1795 l1794.length C1796), (10, .int .i64 x1663), (11, .int .i64 x1664), (47, .bool (decide ((Int.tmod (l7.getD x1664.toNat 0) 5) = (Int.tmod a10 5))))] (by kernel_rfl) ?_
                refine EL.done (by kernel_rfl) ?_
                refine EQ.code ?_
                refine EW.condP (o := (.tmp 47)) (x := C8.r.r.r.r.r.l.r.l.l.r.l.l.r.r.l) (y := C8.r.r.r.r.r.l.r.l.l.r.l.l.r.r.r) ((Int.tmod (l7.getD x1664.toNat 0) 5) = (Int.tmod a10 5)) (by kernel_rfl) (by kernel_rfl) (fun h1797 => ?_) (fun h1797 => ?_)
                · rw [if_pos h1797] at H
                  refine EW.region (id := 12) (ops := C8.r.r.r.r.r.l.r.l.l.r.l.l.r.r.l.ops) (by kernel_rfl) ?_
                  refine EL.quick 3 [0, 1, 2, 3, 9, 10, 11] [(0, .slice (some ad1790) l7.length C9), (1, .int .u8 a10), (2, .int .u16 a11), (3, .int .u8 a12), (9, .slice A1795 l1794.length C1796), (10, .int .i64 (IntKind.i64.wrap (x1663 + 1))), (11, .int .i64 x1664)] (by kernel_rfl) ?_
                  refine EL.done (by kernel_rfl) ?_
                  refine EQ.pop ?_
                  refine EQ.to ?_
                  refine EQ.keep [0, 1, 2, 3, 9, 10, 11] [(0, .slice (some ad1790) l7.length C9), (1, .int .u8 a10), (2, .int .u16 a11), (3, .int .u8 a12), (9, .slice A1795 l1794.length C1796), (10, .int .i64 (IntKind.i64.wrap (x1663 + 1))), (11, .int .i64 x1664)] (by kernel_rfl) ?_
                  exact fun a ha => ⟨l1792, l1794, IntKind.i64.wrap (x1663 + 1), (some ⟨g1791, 0, none⟩), 1, A1795, C1796, ha, (hS.re [1, 1] [] rfl (sub_cons 0 rfl (sub_tail (sub_self)))), H⟩
                · rw [if_neg h1797] at H
                  refine EW.skip (by kernel_rfl) ?_
                  refine EQ.pop ?_
                  refine EQ.to ?_
                  refine EQ.keep [0, 1, 2, 3, 9, 10, 11] [(0, .slice (some ad1790) l7.length C9), (1, .int .u8 a10), (2, .int .u16 a11), (3, .int .u8 a12), (9, .slice A1795 l1794.length C1796), (10, .int .i64 x1663), (11, .int .i64 x1664)] (by kernel_rfl) ?_
                  exact fun a ha => ⟨l1792, l1794, x1663, (some ⟨g1791, 0, none⟩), 1, A1795, C1796, ha, (hS.re [1, 1] [] rfl (sub_cons 0 rfl (sub_tail (sub_self)))), H⟩
              · obtain ⟨x1773, x1776, x1779, A1774, C1775, A1777, C1778, ha, hS, H⟩ := hI
                rw [hj1780] at H
                (try dsimp only at H)
                refine EW.at ?_ a ha
                clear ha a
                refine EW.region (id := 9) (ops := C8.r.r.r.r.r.l.r.l.l.r.r.ops) (by kernel_rfl) ?_
                refine EL.quick 3 [0, 1, 2, 3, 9, 10, 11] [(0, .slice A8 l7.length C9), (1, .int .u8 a10), (2, .int .u16 a11), (3, .int .u8 a12), (9, .slice A1777 x1776.length C1778), (10, .int .i64 x1779), (11, .int .i64 (IntKind.i64.wrap (x1664 + 1)))] (by kernel_rfl) ?_
                refine EL.done (by kernel_rfl) ?_
                refine EQ.to ?_
                refine EQ.keep [0, 1, 2, 3, 9, 10, 11] [(0, .slice A8 l7.length C9), (1, .int .u8 a10), (2, .int .u16 a11), (3, .int .u8 a12), (9, .slice A1777 x1776.length C1778), (10, .int .i64 x1779), (11, .int .i64 (IntKind.i64.wrap (x1664 + 1)))] (by kernel_rfl) ?_
                exact fun a ha => ⟨n, Nat.lt_succ_self n, x1776, x1779, IntKind.i64.wrap (x1664 + 1), A1777, C1778, ha, (hS.re [1] [1] rfl (sub_cons 0 rfl (sub_tail (sub_self)))), H⟩
            · rw [if_neg h1738] at H
              refine EW.exit (id := 0) (by kernel_rfl) ?_
              refine EQ.exitCode ?_
              refine EQ.exitTo ?_
              refine EQ.exitHere ?_
              refine EQ.to ?_
              refine EQ.keep [1, 2, 3, 9, 10] [(1, .int .u8 a10), (2, .int .u16 a11), (3, .int .u8 a12), (9, .slice A1660 x1659.length C1661), (10, .int .i64 x1663)] (by kernel_rfl) ?_
              exact fun a ha => ⟨x1659, x1663, A1660, C1661, ha, (hS.re [0] [] rfl (sub_cons 0 rfl (sub_tail (sub_self)))), H⟩
        · obtain ⟨x1507, x1512, A1508, C1509, ha, hS, H⟩ := hI
          rw [hj1513] at H
          (try dsimp only at H)
          refine EW.at ?_ a ha
          clear ha a
          refine EW.seq (x := C8.r.r.r.r.r.r.l) (y := C8.r.r.r.r.r.r.r) (by kernel_rfl) ?_
          refine EW.region (id := 13) (ops := C8.r.r.r.r.r.r.l.ops) (by kernel_rfl) ?_
          refine EL.quick 7 [3, 9, 10, 12, 13] [(3, .int .u8 a12), (9, .slice A1508 x1507.length C1509), (10, .int .i64 x1512), (12, .int .i64 (IntKind.i64.wrap a11)), (13, .int .i64 (IntKind.i64.wrap (Int.tmod a10 5)))] (by kernel_rfl) ?_
          refine EL.done (by kernel_rfl) ?_
          refine EQ.code ?_
          refine EW.seq (x := C8.r.r.r.r.r.r.r.l) (y := C8.r.r.r.r.r.r.r.r) (by kernel_rfl) ?_
          refine EW.region (id := 14) (ops := C8.r.r.r.r.r.r.r.l.ops) (by kernel_rfl) ?_
          refine EL.quick 3 [3, 9, 10, 12, 13, 55, 56, 57] [(3, .int .u8 a12), (9, .slice A1508 x1507.length C1509), (10, .int .i64 x1512), (12, .int .i64 (IntKind.i64.wrap a11)), (13, .int .i64 (IntKind.i64.wrap (Int.tmod a10 5))), (55, .slice A1508 x1507.length C1509), (56, .int .i64 (IntKind.i64.wrap (Int.tmod a10 5))), (57, .int .i64 (IntKind.i64.wrap a11))] (by kernel_rfl) ?_
          have hS := St.fr hS 0 rfl
          have hS : St B _ (os) (Ro.sl (Kd.int .i64) A1508 C1509 x1507 :: Ro.sl (Kd.int .i64) A1508 C1509 x1507 :: Ro.sl (Kd.int .u8) A8 C9 l7 :: rs) := hS.re [] [] rfl (sub_cons 0 rfl sub_self)
          obtain ⟨t1800, hc1801, H⟩ := b1_out H
          refine EL.of (EO.callD 38 [.slice A1508 x1507.length C1509, .int .i64 (IntKind.i64.wrap (Int.tmod a10 5)), .int .i64 (IntKind.i64.wrap a11)] _ 58 (by kernel_rfl) (by kernel_rfl) (by kernel_rfl) (table_Next.calls hc1801 hS) ?_)
          rintro v w ⟨rfl, hS⟩
          refine EL.quick 1 [3, 9, 10, 12, 13, 14] [(3, .int .u8 a12), (9, .slice A1508 x1507.length C1509), (10, .int .i64 x1512), (12, .int .i64 (IntKind.i64.wrap a11)), (13, .int .i64 (IntKind.i64.wrap (Int.tmod a10 5))), (14, .int .i64 t1800)] (by kernel_rfl) ?_
          refine EL.done (by kernel_rfl) ?_
          refine EQ.code ?_
          refine EW.seq (x := C8.r.r.r.r.r.r.r.r.l) (y := C8.r.r.r.r.r.r.r.r.r) (by kernel_rfl) ?_
          refine EW.seq (x := C8.r.r.r.r.r.r.r.r.l.l) (y := C8.r.r.r.r.r.r.r.r.l.r) (by kernel_rfl) ?_
          refine EW.region (id := 15) (ops := C8.r.r.r.r.r.r.r.r.l.l.ops) (by kernel_rfl) ?_
          refine EL.quick 2 [3, 9, 10, 12, 13, 14, 60] [(3, .int .u8 a12), (9, .slice A1508 x1507.length C1509), (10, .int .i64 x1512), (12, .int .i64 (IntKind.i64.wrap a11)), (13, .int .i64 (IntKind.i64.wrap (Int.tmod a10 5))), (14, .int .i64 t1800), (60, .bool (decide (x1512 = 0)))] (by kernel_rfl) ?_
          refine EL.done (by kernel_rfl) ?_
          refine EQ.code ?_
          refine EW.condP (o := (.tmp 60)) (x := C8.r.r.r.r.r.r.r.r.l.r.l) (y := C8.r.r.r.r.r.r.r.r.l.r.r) (x1512 = 0) (by kernel_rfl) (by kernel_rfl) (fun h1806 => ?_) (fun h1806 => ?_)
          · rw [if_pos h1806] at H
            refine EW.seq (x := C8.r.r.r.r.r.r.r.r.l.r.l.l) (y := C8.r.r.r.r.r.r.r.r.l.r.l.r) (by kernel_rfl) ?_
            refine EW.region (id := 16) (ops := C8.r.r.r.r.r.r.r.r.l.r.l.l.ops) (by kernel_rfl) ?_
            refine EL.quick 3 [9, 12, 13, 63] [(9, .slice A1508 x1507.length C1509), (12, .int .i64 (IntKind.i64.wrap a11)), (13, .int .i64 (IntKind.i64.wrap (Int.tmod a10 5))), (63, .bool (decide (t1800 = (-1))))] (by kernel_rfl) ?_
            by_cases h1807 : t1800 = (-1)
            · rw [if_pos h1807] at H
              refine EL.keep [9, 12, 13, 63] [(9, .slice A1508 x1507.length C1509), (12, .int .i64 (IntKind.i64.wrap a11)), (13, .int .i64 (IntKind.i64.wrap (Int.tmod a10 5))), (63, .bool (decide (t1800 = (-1))))] (by kernel_rfl) ?_
              refine EL.as' [(9, .slice A1508 x1507.length C1509), (12, .int .i64 (IntKind.i64.wrap a11)), (13, .int .i64 (IntKind.i64.wrap (Int.tmod a10 5))), (63, .bool (true))] (by simp only [dec_t h1807, Bool.not_true, Bool.not_false]) ?_
              refine EL.quick 5 [63, 64, 65, 66, 68] [(63, .bool (true)), (64, .slice A1508 x1507.length C1509), (65, .int .i64 (IntKind.i64.wrap (Int.tmod a10 5))), (66, .int .i64 (IntKind.i64.wrap a11)), (68, .int .i64 (IntKind.i64.wrap ((IntKind.i64.wrap a11) + 1000)))] (by kernel_rfl) ?_
              have hS : St B _ (os) (Ro.sl (Kd.int .i64) A1508 C1509 x1507 :: Ro.sl (Kd.int .i64) A1508 C1509 x1507 :: Ro.sl (Kd.int .i64) A1508 C1509 x1507 :: Ro.sl (Kd.int .u8) A8 C9 l7 :: rs) := hS.re [] [] rfl (sub_cons 0 rfl sub_self)
              obtain ⟨t1808, hc1809, H⟩ := b1_out H
              refine EL.of (EO.callD 40 [.slice A1508 x1507.length C1509, .int .i64 (IntKind.i64.wrap (Int.tmod a10 5)), .int .i64 (IntKind.i64.wrap a11), .int .i64 (IntKind.i64.wrap ((IntKind.i64.wrap a11) + 1000))] _ 69 (by kernel_rfl) (by kernel_rfl) (by kernel_rfl) (table_Slots.calls hc1809 hS) ?_)
              rintro v w ⟨rfl, hS⟩
              refine EL.quick 3 [8] [(8, .bool (decide (t1808 = 0)))] (by kernel_rfl) ?_
              refine EL.done (by kernel_rfl) ?_
              refine EQ.code ?_
              refine EW.ret (by kernel_rfl) ?_
              refine EQ.ret ?_
              obtain rfl := Option.some.inj H
              exact EQ.leave (.bool (decide (t1808 = 0))) (by kernel_rfl) ⟨_, rfl, rfl, (hS.re [] [] rfl (sub_tail (sub_tail (sub_tail (sub_self)))))⟩
            · rw [if_neg h1807] at H
              refine EL.keep [9, 12, 13, 63] [(9, .slice A1508 x1507.length C1509), (12, .int .i64 (IntKind.i64.wrap a11)), (13, .int .i64 (IntKind.i64.wrap (Int.tmod a10 5))), (63, .bool (decide (t1800 = (-1))))] (by kernel_rfl) ?_
              refine EL.as' [(9, .slice A1508 x1507.length C1509), (12, .int .i64 (IntKind.i64.wrap a11)), (13, .int .i64 (IntKind.i64.wrap (Int.tmod a10 5))), (63, .bool (false))] (by simp only [dec_f h1807, Bool.not_true, Bool.not_false]) ?_
              refine EL.quick 9 [8] [(8, .bool (false))] (by kernel_rfl) ?_
              refine EL.done (by kernel_rfl) ?_
              refine EQ.code ?_
              refine EW.ret (by kernel_rfl) ?_
              refine EQ.ret ?_
              obtain rfl := Option.some.inj H
              exact EQ.leave (.bool (false)) (by kernel_rfl) ⟨_, rfl, rfl, (hS.re [] [] rfl (sub_tail (sub_tail (sub_self))))⟩
          · rw [if_neg h1806] at H
            refine EW.skip (by kernel_rfl) ?_
            refine EQ.code ?_
            refine EW.seq (x := C8.r.r.r.r.r.r.r.r.r.l) (y := C8.r.r.r.r.r.r.r.r.r.r) (by kernel_rfl) ?_
            refine EW.region (id := 17) (ops := C8.r.r.r.r.r.r.r.r.r.l.ops) (by kernel_rfl) ?_
            refine EL.quick 4 [3, 9, 10, 12, 13, 14, 75] [(3, .int .u8 a12), (9, .slice A1508 x1507.length C1509), (10, .int .i64 x1512), (12, .int .i64 (IntKind.i64.wrap a11)), (13, .int .i64 (IntKind.i64.wrap (Int.tmod a10 5))), (14, .int .i64 t1800), (75, .bool (decide (t1800 ≥ (IntKind.i64.wrap a11))))] (by kernel_rfl) ?_
            by_cases h1810 : t1800 ≥ (IntKind.i64.wrap a11)
            · rw [if_pos h1810] at H
              refine EL.keep [3, 9, 10, 12, 13, 14, 75] [(3, .int .u8 a12), (9, .slice A1508 x1507.length C1509), (10, .int .i64 x1512), (12, .int .i64 (IntKind.i64.wrap a11)), (13, .int .i64 (IntKind.i64.wrap (Int.tmod a10 5))), (14, .int .i64 t1800), (75, .bool (decide (t1800 ≥ (IntKind.i64.wrap a11))))] (by kernel_rfl) ?_
              refine EL.as' [(3, .int .u8 a12), (9, .slice A1508 x1507.length C1509), (10, .int .i64 x1512), (12, .int .i64 (IntKind.i64.wrap a11)), (13, .int .i64 (IntKind.i64.wrap (Int.tmod a10 5))), (14, .int .i64 t1800), (75, .bool (true))] (by simp only [dec_t h1810, Bool.not_true, Bool.not_false]) ?_
              refine EL.quick 8 [3, 9, 10, 12, 13, 14, 83] [(3, .int .u8 a12), (9, .slice A1508 x1507.length C1509), (10, .int .i64 x1512), (12, .int .i64 (IntKind.i64.wrap a11)), (13, .int .i64 (IntKind.i64.wrap (Int.tmod a10 5))), (14, .int .i64 t1800), (83, .bool (decide (t1800 < (IntKind.i64.wrap ((IntKind.i64.wrap a11) + (x1507.length : Int))))))] (by kernel_rfl) ?_
              by_cases h1811 : t1800 < (IntKind.i64.wrap ((IntKind.i64.wrap a11) + (x1507.length : Int)))
              · rw [if_pos h1811] at H
                refine EL.keep [3, 9, 10, 12, 13, 14, 83] [(3, .int .u8 a12), (9, .slice A1508 x1507.length C1509), (10, .int .i64 x1512), (12, .int .i64 (IntKind.i64.wrap a11)), (13, .int .i64 (IntKind.i64.wrap (Int.tmod a10 5))), (14, .int .i64 t1800), (83, .bool (decide (t1800 < (IntKind.i64.wrap ((IntKind.i64.wrap a11) + (x1507.length : Int))))))] (by kernel_rfl) ?_
                refine EL.as' [(3, .int .u8 a12), (9, .slice A1508 x1507.length C1509), (10, .int .i64 x1512), (12, .int .i64 (IntKind.i64.wrap a11)), (13, .int .i64 (IntKind.i64.wrap (Int.tmod a10 5))), (14, .int .i64 t1800), (83, .bool (true))] (by simp only [dec_t h1811, Bool.not_true, Bool.not_false]) ?_
                refine EL.quick 2 [3, 9, 10, 12, 13, 14, 83, 84, 85] [(3, .int .u8 a12), (9, .slice A1508 x1507.length C1509), (10, .int .i64 x1512), (12, .int .i64 (IntKind.i64.wrap a11)), (13, .int .i64 (IntKind.i64.wrap (Int.tmod a10 5))), (14, .int .i64 t1800), (83, .bool (true)), (84, .slice A1508 x1507.length C1509), (85, .int .i64 t1800)] (by kernel_rfl) ?_
                have hS : St B _ (os) (Ro.sl (Kd.int .i64) A1508 C1509 x1507 :: Ro.sl (Kd.int .i64) A1508 C1509 x1507 :: Ro.sl (Kd.int .i64) A1508 C1509 x1507 :: Ro.sl (Kd.int .u8) A8 C9 l7 :: rs) := hS.re [] [] rfl (sub_cons 0 rfl sub_self)
                obtain ⟨t1812, hc1813, H⟩ := b1_out H
                refine EL.of (EO.callD 36 [.slice A1508 x1507.length C1509, .int .i64 t1800] _ 86 (by kernel_rfl) (by kernel_rfl) (by kernel_rfl) (table_At.calls hc1813 hS) ?_)
                rintro v w ⟨rfl, hS⟩
                refine EL.quick 4 [3, 9, 10, 12, 13, 14, 90] [(3, .int .u8 a12), (9, .slice A1508 x1507.length C1509), (10, .int .i64 x1512), (12, .int .i64 (IntKind.i64.wrap a11)), (13, .int .i64 (IntKind.i64.wrap (Int.tmod a10 5))), (14, .int .i64 t1800), (90, .bool (decide (t1812 = (IntKind.i64.wrap (Int.tmod a10 5)))))] (by kernel_rfl) ?_
                by_cases h1814 : t1812 = (IntKind.i64.wrap (Int.tmod a10 5))
                · rw [if_pos h1814] at H
                  refine EL.keep [3, 9, 10, 12, 13, 14, 90] [(3, .int .u8 a12), (9, .slice A1508 x1507.length C1509), (10, .int .i64 x1512), (12, .int .i64 (IntKind.i64.wrap a11)), (13, .int .i64 (IntKind.i64.wrap (Int.tmod a10 5))), (14, .int .i64 t1800), (90, .bool (decide (t1812 = (IntKind.i64.wrap (Int.tmod a10 5)))))] (by kernel_rfl) ?_
                  refine EL.as' [(3, .int .u8 a12), (9, .slice A1508 x1507.length C1509), (10, .int .i64 x1512), (12, .int .i64 (IntKind.i64.wrap a11)), (13, .int .i64 (IntKind.i64.wrap (Int.tmod a10 5))), (14, .int .i64 t1800), (90, .bool (true))] (by simp only [dec_t h1814, Bool.not_true, Bool.not_false]) ?_
                  refine EL.quick 4 [3, 9, 10, 12, 13, 90, 91, 92, 93, 94] [(3, .int .u8 a12), (9, .slice A1508 x1507.length C1509), (10, .int .i64 x1512), (12, .int .i64 (IntKind.i64.wrap a11)), (13, .int .i64 (IntKind.i64.wrap (Int.tmod a10 5))), (90, .bool (true)), (91, .slice A1508 x1507.length C1509), (92, .int .i64 (IntKind.i64.wrap (Int.tmod a10 5))), (93, .int .i64 (IntKind.i64.wrap a11)), (94, .int .i64 t1800)] (by kernel_rfl) ?_
                  have hS : St B _ (os) (Ro.sl (Kd.int .i64) A1508 C1509 x1507 :: Ro.sl (Kd.int .i64) A1508 C1509 x1507 :: Ro.sl (Kd.int .i64) A1508 C1509 x1507 :: Ro.sl (Kd.int .i64) A1508 C1509 x1507 :: Ro.sl (Kd.int .u8) A8 C9 l7 :: rs) := hS.re [] [] rfl (sub_cons 0 rfl sub_self)
                  obtain ⟨t1815, hc1816, H⟩ := b1_out H
                  refine EL.of (EO.callD 40 [.slice A1508 x1507.length C1509, .int .i64 (IntKind.i64.wrap (Int.tmod a10 5)), .int .i64 (IntKind.i64.wrap a11), .int .i64 t1800] _ 95 (by kernel_rfl) (by kernel_rfl) (by kernel_rfl) (table_Slots.calls hc1816 hS) ?_)
                  rintro v w ⟨rfl, hS⟩
                  refine EL.quick 3 [3, 9, 10, 12, 13, 98] [(3, .int .u8 a12), (9, .slice A1508 x1507.length C1509), (10, .int .i64 x1512), (12, .int .i64 (IntKind.i64.wrap a11)), (13, .int .i64 (IntKind.i64.wrap (Int.tmod a10 5))), (98, .bool (decide (t1815 = 0)))] (by kernel_rfl) ?_
                  by_cases h1817 : t1815 = 0
                  · rw [if_pos h1817] at H
                    refine EL.keep [3, 9, 10, 12, 13, 98] [(3, .int .u8 a12), (9, .slice A1508 x1507.length C1509), (10, .int .i64 x1512), (12, .int .i64 (IntKind.i64.wrap a11)), (13, .int .i64 (IntKind.i64.wrap (Int.tmod a10 5))), (98, .bool (decide (t1815 = 0)))] (by kernel_rfl) ?_
                    refine EL.as' [(3, .int .u8 a12), (9, .slice A1508 x1507.length C1509), (10, .int .i64 x1512), (12, .int .i64 (IntKind.i64.wrap a11)), (13, .int .i64 (IntKind.i64.wrap (Int.tmod a10 5))), (98, .bool (true))] (by simp only [dec_t h1817, Bool.not_true, Bool.not_false]) ?_
                    refine EL.quick 10 [3, 10, 98, 99, 100, 101, 108] [(3, .int .u8 a12), (10, .int .i64 x1512), (98, .bool (true)), (99, .slice A1508 x1507.length C1509), (100, .int .i64 (IntKind.i64.wrap (Int.tmod a10 5))), (101, .int .i64 (IntKind.i64.wrap a11)), (108, .int .i64 (IntKind.i64.wrap ((IntKind.i64.wrap a11) + (IntKind.i64.wrap ((IntKind.i64.wrap a12) * (x1507.length : Int))))))] (by kernel_rfl) ?_
                    have hS : St B _ (os) (Ro.sl (Kd.int .i64) A1508 C1509 x1507 :: Ro.sl (Kd.int .i64) A1508 C1509 x1507 :: Ro.sl (Kd.int .i64) A1508 C1509 x1507 :: Ro.sl (Kd.int .i64) A1508 C1509 x1507 :: Ro.sl (Kd.int .i64) A1508 C1509 x1507 :: Ro.sl (Kd.int .u8) A8 C9 l7 :: rs) := hS.re [] [] rfl (sub_cons 0 rfl sub_self)
                    obtain ⟨t1818, hc1819, H⟩ := b1_out H
                    refine EL.of (EO.callD 40 [.slice A1508 x1507.length C1509, .int .i64 (IntKind.i64.wrap (Int.tmod a10 5)), .int .i64 (IntKind.i64.wrap a11), .int .i64 (IntKind.i64.wrap ((IntKind.i64.wrap a11) + (IntKind.i64.wrap ((IntKind.i64.wrap a12) * (x1507.length : Int)))))] _ 109 (by kernel_rfl) (by kernel_rfl) (by kernel_rfl) (table_Slots.calls hc1819 hS) ?_)
                    rintro v w ⟨rfl, hS⟩
                    refine EL.quick 7 [8] [(8, .bool (decide (t1818 = (IntKind.i64.wrap ((IntKind.i64.wrap a12) * x1512)))))] (by kernel_rfl) ?_
                    refine EL.done (by kernel_rfl) ?_
                    refine EQ.code ?_
                    refine EW.ret (by kernel_rfl) ?_
                    obtain rfl := Option.some.inj H
                    exact EQ.leave (.bool (decide (t1818 = (IntKind.i64.wrap ((IntKind.i64.wrap a12) * x1512))))) (by kernel_rfl) ⟨_, rfl, rfl, (hS.re [] [] rfl (sub_tail (sub_tail (sub_tail (sub_tail (sub_tail (sub_self)))))))⟩
                  · rw [if_neg h1817] at H
                    refine EL.keep [3, 9, 10, 12, 13, 98] [(3, .int .u8 a12), (9, .slice A1508 x1507.length C1509), (10, .int .i64 x1512), (12, .int .i64 (IntKind.i64.wrap a11)), (13, .int .i64 (IntKind.i64.wrap (Int.tmod a10 5))), (98, .bool (decide (t1815 = 0)))] (by kernel_rfl) ?_
                    refine EL.as' [(3, .int .u8 a12), (9, .slice A1508 x1507.length C1509), (10, .int .i64 x1512), (12, .int .i64 (IntKind.i64.wrap a11)), (13, .int .i64 (IntKind.i64.wrap (Int.tmod a10 5))), (98, .bool (false))] (by simp only [dec_f h1817, Bool.not_true, Bool.not_false]) ?_
                    refine EL.quick 18 [8] [(8, .bool (false))] (by kernel_rfl) ?_
                    refine EL.done (by kernel_rfl) ?_
                    refine EQ.code ?_
                    refine EW.ret (by kernel_rfl) ?_
                    obtain rfl := Option.some.inj H
                    exact EQ.leave (.bool (false)) (by kernel_rfl) ⟨_, rfl, rfl, (hS.re [] [] rfl (sub_tail (sub_tail (sub_tail (sub_tail (sub_self))))))⟩
                · rw [if_neg h1814] at H
                  refine EL.keep [3, 9, 10, 12, 13, 14, 90] [(3, .int .u8 a12), (9, .slice A1508 x1507.length C1509), (10, .int .i64 x1512), (12, .int .i64 (IntKind.i64.wrap a11)), (13, .int .i64 (IntKind.i64.wrap (Int.tmod a10 5))), (14, .int .i64 t1800), (90, .bool (decide (t1812 = (IntKind.i64.wrap (Int.tmod a10 5)))))] (by kernel_rfl) ?_
                  refine EL.as' [(3, .int .u8 a12), (9, .slice A1508 x1507.length C1509), (10, .int .i64 x1512), (12, .int .i64 (IntKind.i64.wrap a11)), (13, .int .i64 (IntKind.i64.wrap (Int.tmod a10 5))), (14, .int .i64 t1800), (90, .bool (false))] (by simp only [dec_f h1814, Bool.not_true, Bool.not_false]) ?_
                  refine EL.quick 26 [8] [(8, .bool (false))] (by kernel_rfl) ?_
                  refine EL.done (by kernel_rfl) ?_
                  refine EQ.code ?_
                  refine EW.ret (by kernel_rfl) ?_
                  obtain rfl := Option.some.inj H
                  exact EQ.leave (.bool (false)) (by kernel_rfl) ⟨_, rfl, rfl, (hS.re [] [] rfl (sub_tail (sub_tail (sub_tail (sub_self)))))⟩
              · rw [if_neg h1811] at H
                refine EL.keep [3, 9, 10, 12, 13, 14, 83] [(3, .int .u8 a12), (9, .slice A1508 x1507.length C1509), (10, .int .i64 x1512), (12, .int .i64 (IntKind.i64.wrap a11)), (13, .int .i64 (IntKind.i64.wrap (Int.tmod a10 5))), (14, .int .i64 t1800), (83, .bool (decide (t1800 < (IntKind.i64.wrap ((IntKind.i64.wrap a11) + (x1507.length : Int))))))] (by kernel_rfl) ?_
                refine EL.as' [(3, .int .u8 a12), (9, .slice A1508 x1507.length C1509), (10, .int .i64 x1512), (12, .int .i64 (IntKind.i64.wrap a11)), (13, .int .i64 (IntKind.i64.wrap (Int.tmod a10 5))), (14, .int .i64 t1800), (83, .bool (false))] (by simp only [dec_f h1811, Bool.not_true, Bool.not_false]) ?_
                refine EL.quick 33 [8] [(8, .bool (false))] (by kernel_rfl) ?_
                refine EL.done (by kernel_rfl) ?_
                refine EQ.code ?_
                refine EW.ret (by kernel_rfl) ?_
                obtain rfl := Option.some.inj H
                exact EQ.leave (.bool (false)) (by kernel_rfl) ⟨_, rfl, rfl, (hS.re [] [] rfl (sub_tail (sub_tail (sub_self))))⟩
            · rw [if_neg h1810] at H
              refine EL.keep [3, 9, 10, 12, 13, 14, 75] [(3, .int .u8 a12), (9, .slice A1508 x1507.length C1509), (10, .int .i64 x1512), (12, .int .i64 (IntKind.i64.wrap a11)), (13, .int .i64 (IntKind.i64.wrap (Int.tmod a10 5))), (14, .int .i64 t1800), (75, .bool (decide (t1800 ≥ (IntKind.i64.wrap a11))))] (by kernel_rfl) ?_
              refine EL.as' [(3, .int .u8 a12), (9, .slice A1508 x1507.length C1509), (10, .int .i64 x1512), (12, .int .i64 (IntKind.i64.wrap a11)), (13, .int .i64 (IntKind.i64.wrap (Int.tmod a10 5))), (14, .int .i64 t1800), (75, .bool (false))] (by simp only [dec_f h1810, Bool.not_true, Bool.not_false]) ?_
              refine EL.quick 41 [8] [(8, .bool (false))] (by kernel_rfl) ?_
              refine EL.done (by kernel_rfl) ?_
              refine EQ.code ?_
              refine EW.ret (by kernel_rfl) ?_
              obtain rfl := Option.some.inj H
              exact EQ.leave (.bool (false)) (by kernel_rfl) ⟨_, rfl, rfl, (hS.re [] [] rfl (sub_tail (sub_tail (sub_self))))⟩
  · rw [if_neg h926] at H
    refine EW.seq (x := C8.r.l.r.l.l) (y := C8.r.l.r.l.r) (by kernel_rfl) ?_
    refine EW.region (id := 2) (ops := C8.r.l.r.l.l.ops) (by kernel_rfl) ?_
    refine EL.quick 1 [8] [(8, .bool (false))] (by kernel_rfl) ?_
    refine EL.done (by kernel_rfl) ?_
    refine EQ.code ?_
    refine EW.ret (by kernel_rfl) ?_
    refine EQ.ret ?_
    obtain rfl := Option.some.inj H
    exact EQ.leave (.bool (false)) (by kernel_rfl) ⟨_, rfl, rfl, (hS.re [] [] rfl (sub_self))⟩

def confidantlaw18_TableShares.Pure : Prop := ∀ (l7 : List Int) (a10 : Int) (a11 : Int) (a12 : Int), l7.length * 1 ≤ 140737488351232 → (∀ x ∈ l7, (Lit.int .u8 x).wf = true) → (Lit.int .u8 a10).wf = true → (Lit.int .u16 a11).wf = true → (Lit.int .u8 a12).wf = true → ∃ K, confidantlaw18_TableShares.f K l7 a10 a11 a12 = some true

noncomputable def C9 : Code := bodyOf Try.f9

end Go.Proofs.Ytjfnejcanlkknaa.G
