import Derived.Test.YtifnjijlbcacoaaProg
import Derived.Test.YtifnjijlbcacoaaFwEq
import Derived.Test.YtifnjijlbcacoaaFwOpen
import Derived.Test.YtifnjijlbcacoaaG0
import Derived.Test.YtifnjijlbcacoaaG1
import Derived.Test.YtifnjijlbcacoaaG2
import Derived.Test.YtifnjijlbcacoaaG8
namespace Go.Proofs.Ytifnjijlbcacoaa.G
open Go Go.Fw Go.RowKit Go.Proofs
set_option linter.unusedVariables false
set_option linter.unusedSimpArgs false

/-! ### confidant/confidantlaw12.ArenaPlays: function 9 -/
def confidantlaw12_ArenaPlays.l3 (K : Nat) (x15613 : Int) (x13177 : List (List S69)) (x13180 : List (List S69)) (t9194 : List Int) (j16406 : Option Bool) : Nat → Int → Option Bool
  | 0, _ => none
  | n + 1, x16457 => if 0 ≤ x15613 then (if x16457 < ((x13177.getD x15613.toNat []).length : Int) then (b3 (arena_Arena_Get.f K x13180 t9194 (IntKind.i32.wrap (IntKind.i64.wrap ((IntKind.i64.wrap (x15613 * 65536)) + x16457)))) fun (t16552 : Int) (t16553 : Int) (t16554 : Bool) => (if t16554 = true then (if 0 ≤ x16457 then (if ((t16552 == (((x13177.getD x15613.toNat []).getD x16457.toNat zS69).f0)) && ((t16553 == (((x13177.getD x15613.toNat []).getD x16457.toNat zS69).f1)) && true)) = true then (confidantlaw12_ArenaPlays.l3 K x15613 x13177 x13180 t9194 j16406 n (IntKind.i64.wrap (x16457 + 1))) else (some false)) else none) else (some false))) else (j16406)) else none
def confidantlaw12_ArenaPlays.l2 (K : Nat) (x13177 : List (List S69)) (x13180 : List (List S69)) (t9194 : List Int) : Nat → Int → Option Bool
  | 0, _ => none
  | n + 1, x15613 => if x15613 < (x13177.length : Int) then (lt (confidantlaw12_ArenaPlays.l2 K x13177 x13180 t9194 n (IntKind.i64.wrap (x15613 + 1))) fun j16406 => (confidantlaw12_ArenaPlays.l3 K x15613 x13177 x13180 t9194 j16406 K 0)) else (some true)
def confidantlaw12_ArenaPlays.l1 (K : Nat) (l10 : List S65) (t9194 : List Int) (t9201 : List Int) (j13183 : (List (List S69)) → (List (List S69)) → Option Bool) : Nat → (List (List S69)) → (List (List S69)) → Int → Option Bool
  | 0, _, _, _ => none
  | n + 1, x13844, x13847, x13850 => if x13850 < (l10.length : Int) then (if 0 ≤ x13850 then (lt (IntKind.i64.wrap ((IntKind.i64.wrap (Int.tmod ((l10.getD x13850.toNat zS65).f1) 18)) - 1)) fun y14849 => (lt (IntKind.i32.wrap ((IntKind.i32.wrap ((IntKind.i32.wrap (Int.tmod ((l10.getD x13850.toNat zS65).f1) 4)) * 65536)) + (IntKind.i32.wrap (Int.tmod ((l10.getD x13850.toNat zS65).f3) 5)))) fun y14850 => (lt (fun (x14854 : Int) => (lt (fun (x15043 : List (List S69)) (x15046 : List (List S69)) => (lt (fun (x15163 : Bool) => (if x15163 = true then (some false) else (confidantlaw12_ArenaPlays.l1 K l10 t9194 t9201 j13183 n x15043 x15046 (IntKind.i64.wrap (x13850 + 1))))) fun j15164 => (b1 (arena_Arena_Count.f K x15046 t9194 y14849) fun (t15165 : Int) => (b1 (confidantref12_Arena_Count.f K t9201 x15043 y14849) fun (t15167 : Int) => (if t15165 = t15167 then (b1 (arena_Arena_Count.f K x15046 t9194 (-1)) fun (t15170 : Int) => (j15164 (!(decide (t15170 = 0))))) else (j15164 true)))))) fun j15049 => (lt (fun (x15055 : Bool) => (if x15055 = true then (b3 (arena_Arena_Make.f K x13847 t9194 y14849 (IntKind.i64.wrap (Int.tmod ((l10.getD x13850.toNat zS65).f2) 16)) ((l10.getD x13850.toNat zS65).f4)) fun (t15066 : List (List S69)) (t15067 : Int) (t15068 : Bool) => (b3 (confidantref12_Arena_Make.f K t9201 x13844 y14849 (IntKind.i64.wrap (Int.tmod ((l10.getD x13850.toNat zS65).f2) 16)) ((l10.getD x13850.toNat zS65).f4)) fun (t15078 : List (List S69)) (t15079 : Int) (t15080 : Bool) => (lt (fun (x15087 : Bool) => (if x15087 = true then (some false) else (j15049 t15078 t15066))) fun j15088 => (if t15067 = t15079 then (j15088 (!((t15068 == t15080)))) else (j15088 true))))) else (if (Int.tmod ((l10.getD x13850.toNat zS65).f0) 5) = 3 then (b3 (arena_Arena_Get.f K x13847 t9194 x14854) fun (t15097 : Int) (t15098 : Int) (t15099 : Bool) => (b3 (confidantref12_Arena_Get.f K t9201 x13844 x14854) fun (t15107 : Int) (t15108 : Int) (t15109 : Bool) => (lt (fun (x15115 : Bool) => (if x15115 = true then (some false) else (j15049 x13844 x13847))) fun j15116 => (if ((t15097 == t15107) && ((t15098 == t15108) && true)) = true then (j15116 (!((t15099 == t15109)))) else (j15116 true))))) else (b2 (arena_Arena_Set.f K x13847 t9194 x14854 ((l10.getD x13850.toNat zS65).f4)) fun (t15129 : List (List S69)) (t15130 : Bool) => (b2 (confidantref12_Arena_Set.f K t9201 x13844 x14854 ((l10.getD x13850.toNat zS65).f4)) fun (t15134 : List (List S69)) (t15135 : Bool) => (if (t15130 == t15135) = true then (j15049 t15134 t15129) else (some false))))))) fun j15056 => (if (Int.tmod ((l10.getD x13850.toNat zS65).f0) 5) = 0 then (j15056 true) else (if (Int.tmod ((l10.getD x13850.toNat zS65).f0) 5) = 1 then (j15056 true) else (j15056 (decide ((Int.tmod ((l10.getD x13850.toNat zS65).f0) 5) = 2)))))))) fun j14855 => (if ((l10.getD x13850.toNat zS65).f3) > 230 then (j14855 ((l10.getD x13850.toNat zS65).f5)) else (j14855 y14850))))) else none) else (j13183 x13844 x13847)
def confidantlaw12_ArenaPlays.l0 (K : Nat) (l7 : List Int) (j9052 : (List Int) → Option Bool) : Nat → (List Int) → Int → Option Bool
  | 0, _, _ => none
  | n + 1, x9119, x9123 => if x9123 < (l7.length : Int) then (if 0 ≤ x9123 then (b1 (confidanthelp_Place.f K (l7.getD x9123.toNat 0) 6) fun (t9169 : Int) => (lt ([IntKind.i64.wrap (t9169 - 1)] : List Int) fun l9172 => (if (x9119.length + l9172.length) * 8 ≤ 140737488355328 then (lt (x9119 ++ l9172) fun l9174 => (confidantlaw12_ArenaPlays.l0 K l7 j9052 n l9174 (IntKind.i64.wrap (x9123 + 1)))) else none))) else none) else (j9052 x9119)
def confidantlaw12_ArenaPlays.f (K : Nat) (l7 : List Int) (l10 : List S65) : Option Bool := b1 (confidantlaw12_known.f K) fun (t8777 : Bool) => (if t8777 = true then (lt (fun (x8790 : Bool) => (if x8790 = true then (some true) else (lt (fun (x9047 : List Int) => (b2 (arena_New.f K x9047) fun (t9193 : List (List S69)) (t9194 : List Int) => (b2 (confidantref12_NewArena.f K x9047) fun (t9201 : List Int) (t9202 : List (List S69)) => (lt (fun (x13177 : List (List S69)) (x13180 : List (List S69)) => (confidantlaw12_ArenaPlays.l2 K x13177 x13180 t9194 K 0)) fun j13183 => (confidantlaw12_ArenaPlays.l1 K l10 t9194 t9201 j13183 K t9202 t9193 0))))) fun j9052 => (confidantlaw12_ArenaPlays.l0 K l7 j9052 K ([] : List Int) 0)))) fun j8791 => (if (l7.length : Int) > 20 then (j8791 true) else (j8791 (decide ((l10.length : Int) > 60))))) else (some false))
set_option maxRecDepth 100000 in
theorem confidantlaw12_ArenaPlays.calls {K : Nat} {l7 : List Int} {l10 : List S65} {A8 : Option Addr} {C9 : Nat} {A11 : Option Addr} {C12 : Nat} {x8769 : Bool} {B w : World} {os : List Ass} {rs : List Ro} (H : confidantlaw12_ArenaPlays.f K l7 l10 = some x8769) (hS : St B w (os) (Ro.sl (Kd.int .i64) A8 C9 l7 :: Ro.sl kS65 A11 C12 l10 :: rs)) :
    Calls Try.prog 9 [.slice A8 l7.length C9, .slice A11 l10.length C12].toArray w (fun en w' => ∃ v, en = .returned v ∧ v = .bool (x8769) ∧ St B w' (os) (Ro.sl (Kd.int .i64) A8 C9 l7 :: Ro.sl kS65 A11 C12 l10 :: rs)) := by
  unfold confidantlaw12_ArenaPlays.f at H
  refine calls_of_EW (args := [.slice A8 l7.length C9, .slice A11 l10.length C12]) (c := Cd9) 214 Try.func9 (by kernel_rfl) (by kernel_rfl) (by kernel_rfl) ?_
  refine EW.seq (x := Cd9.l) (y := Cd9.r) (by kernel_rfl) ?_
  refine EW.region (id := 0) (ops := Cd9.l.ops) (by kernel_rfl) ?_
  refine EL.quick 1 [0, 1] [(0, .slice A8 l7.length C9), (1, .slice A11 l10.length C12)] (by kernel_rfl) ?_
  refine EL.done (by kernel_rfl) ?_
  refine EQ.code ?_
  refine EW.seq (x := Cd9.r.l) (y := Cd9.r.r) (by kernel_rfl) ?_
  refine EW.seq (x := Cd9.r.l.l) (y := Cd9.r.l.r) (by kernel_rfl) ?_
  refine EW.region (id := 1) (ops := Cd9.r.l.l.ops) (by kernel_rfl) ?_
  obtain ⟨t8777, hc8778, H⟩ := b1_out H
  refine EL.of (EO.callD 32 [] _ 26 (by kernel_rfl) (by kernel_rfl) (by kernel_rfl) (confidantlaw12_known.calls hc8778 hS) ?_)
  rintro v w ⟨rfl, hS⟩
  refine EL.quick 1 [0, 1, 27] [(0, .slice A8 l7.length C9), (1, .slice A11 l10.length C12), (27, .bool (!(t8777)))] (by kernel_rfl) ?_
  refine EL.done (by kernel_rfl) ?_
  refine EQ.code ?_
  refine EW.condQ (b := !(t8777)) (o := (.tmp 27)) (x := Cd9.r.l.r.l) (y := Cd9.r.l.r.r) (t8777 = true) (false) (by kernel_rfl) (by kernel_rfl) ⟨fun h => (by rw [h] <;> rfl), fun h => (by rw [Bool.eq_false_iff.2 h] <;> rfl)⟩ (fun h8779 => ?_) (fun h8779 => ?_)
  · rw [if_pos h8779] at H
    refine EW.skip (by kernel_rfl) ?_
    refine EQ.code ?_
    refine EW.seq (x := Cd9.r.r.l) (y := Cd9.r.r.r) (by kernel_rfl) ?_
    obtain ⟨j8791, hj8791, H⟩ := lt_out H
    refine EW.cut (x := Cd9.r.r.l.l) (y := Cd9.r.r.l.r) (fun a w => ∃ x8790 : Bool, Sat 214 [(0, .slice A8 l7.length C9), (1, .slice A11 l10.length C12), (35, .bool (x8790))] a ∧ St B w (os) (Ro.sl (Kd.int .i64) A8 C9 l7 :: Ro.sl kS65 A11 C12 l10 :: rs) ∧ j8791 x8790 = some x8769) (by kernel_rfl) ?_ (fun a w hI => ?_)
    · refine EW.region (id := 3) (ops := Cd9.r.r.l.l.ops) (by kernel_rfl) ?_
      refine EL.quick 4 [0, 1, 31] [(0, .slice A8 l7.length C9), (1, .slice A11 l10.length C12), (31, .bool (decide ((l7.length : Int) > 20)))] (by kernel_rfl) ?_
      by_cases h8792 : (l7.length : Int) > 20
      · rw [if_pos h8792] at H
        refine EL.keep [0, 1, 31] [(0, .slice A8 l7.length C9), (1, .slice A11 l10.length C12), (31, .bool (decide ((l7.length : Int) > 20)))] (by kernel_rfl) ?_
        refine EL.as' [(0, .slice A8 l7.length C9), (1, .slice A11 l10.length C12), (31, .bool (true))] (by simp only [dec_t h8792, Bool.not_true, Bool.not_false]) ?_
        refine EL.quick 4 [0, 1, 35] [(0, .slice A8 l7.length C9), (1, .slice A11 l10.length C12), (35, .bool (true))] (by kernel_rfl) ?_
        refine EL.done (by kernel_rfl) ?_
        refine EQ.to ?_
        refine EQ.keep [0, 1, 35] [(0, .slice A8 l7.length C9), (1, .slice A11 l10.length C12), (35, .bool (true))] (by kernel_rfl) ?_
        exact fun a ha => ⟨true, ha, (hS.re [] [] rfl (sub_cons 0 rfl (sub_cons 1 rfl (sub_tail (sub_tail (sub_self)))))), H⟩
      · rw [if_neg h8792] at H
        refine EL.keep [0, 1, 31] [(0, .slice A8 l7.length C9), (1, .slice A11 l10.length C12), (31, .bool (decide ((l7.length : Int) > 20)))] (by kernel_rfl) ?_
        refine EL.as' [(0, .slice A8 l7.length C9), (1, .slice A11 l10.length C12), (31, .bool (false))] (by simp only [dec_f h8792, Bool.not_true, Bool.not_false]) ?_
        refine EL.quick 4 [0, 1, 35] [(0, .slice A8 l7.length C9), (1, .slice A11 l10.length C12), (35, .bool (decide ((l10.length : Int) > 60)))] (by kernel_rfl) ?_
        refine EL.done (by kernel_rfl) ?_
        refine EQ.to ?_
        refine EQ.keep [0, 1, 35] [(0, .slice A8 l7.length C9), (1, .slice A11 l10.length C12), (35, .bool (decide ((l10.length : Int) > 60)))] (by kernel_rfl) ?_
        exact fun a ha => ⟨decide ((l10.length : Int) > 60), ha, (hS.re [] [] rfl (sub_cons 0 rfl (sub_cons 1 rfl (sub_tail (sub_tail (sub_self)))))), H⟩
    · obtain ⟨x8790, ha, hS, H⟩ := hI
      rw [hj8791] at H
      (try dsimp only at H)
      refine EW.at ?_ a ha
      clear ha a
      refine EW.condP' (o := (.tmp 35)) (x := Cd9.r.r.l.r.l) (y := Cd9.r.r.l.r.r) (x8790) (by kernel_rfl) (by kernel_rfl) (fun h8793 => ?_) (fun h8793 => ?_)
      · rw [if_pos h8793] at H
        refine EW.seq (x := Cd9.r.r.l.r.l.l) (y := Cd9.r.r.l.r.l.r) (by kernel_rfl) ?_
        refine EW.region (id := 4) (ops := Cd9.r.r.l.r.l.l.ops) (by kernel_rfl) ?_
        refine EL.quick 1 [4] [(4, .bool (true))] (by kernel_rfl) ?_
        refine EL.done (by kernel_rfl) ?_
        refine EQ.code ?_
        refine EW.ret (by kernel_rfl) ?_
        refine EQ.ret ?_
        obtain rfl := Option.some.inj H
        exact EQ.leave (.bool (true)) (by kernel_rfl) ⟨_, rfl, rfl, (hS.re [] [] rfl (sub_self))⟩
      · rw [if_neg h8793] at H
        refine EW.skip (by kernel_rfl) ?_
        refine EQ.code ?_
        refine EW.seq (x := Cd9.r.r.r.l) (y := Cd9.r.r.r.r) (by kernel_rfl) ?_
        refine EW.region (id := 5) (ops := Cd9.r.r.r.l.ops) (by kernel_rfl) ?_
        refine EL.quick 1 [0, 1, 5] [(0, .slice A8 l7.length C9), (1, .slice A11 l10.length C12), (5, .slice none ([] : List Int).length 0)] (by kernel_rfl) ?_
        refine EL.done (by kernel_rfl) ?_
        refine EQ.code ?_
        obtain ⟨j9052, hj9052, H⟩ := lt_out H
        refine EW.cut (x := Cd9.r.r.r.r.l) (y := Cd9.r.r.r.r.r) (fun a w => ∃ x9047 : List Int, ∃ A9048 : Option Addr, ∃ C9049 : Nat, Sat 214 [(1, .slice A11 l10.length C12), (5, .slice A9048 x9047.length C9049)] a ∧ St B w (Ass.own 3 (Kd.int .i64) A9048 C9049 x9047 :: os) (Ro.sl (Kd.int .i64) A8 C9 l7 :: Ro.sl kS65 A11 C12 l10 :: rs) ∧ j9052 x9047 = some x8769) (by kernel_rfl) ?_ (fun a w hI => ?_)
        · refine EW.seq (x := Cd9.r.r.r.r.l.l) (y := Cd9.r.r.r.r.l.r) (by kernel_rfl) ?_
          refine EW.region (id := 6) (ops := Cd9.r.r.r.r.l.l.ops) (by kernel_rfl) ?_
          refine EL.quick 1 [0, 1, 5, 6] [(0, .slice A8 l7.length C9), (1, .slice A11 l10.length C12), (5, .slice none ([] : List Int).length 0), (6, .int .i64 0)] (by kernel_rfl) ?_
          refine EL.done (by kernel_rfl) ?_
          refine EQ.code ?_
          refine EW.block (x := Cd9.r.r.r.r.l.r.l) (id := 0) (by kernel_rfl) ?_
          have hS := St.nilO hS 3 (Kd.int .i64)
          refine EW.loop (x := Cd9.r.r.r.r.l.r.l.l) (fun n a w => ∃ x9119 : List Int, ∃ x9123 : Int, ∃ A9120 : Option Addr, ∃ C9121 : Nat, Sat 214 [(0, .slice A8 l7.length C9), (1, .slice A11 l10.length C12), (5, .slice A9120 x9119.length C9121), (6, .int .i64 x9123)] a ∧ St B w (Ass.own 3 (Kd.int .i64) A9120 C9121 x9119 :: os) (Ro.sl (Kd.int .i64) A8 C9 l7 :: Ro.sl kS65 A11 C12 l10 :: rs) ∧ confidantlaw12_ArenaPlays.l0 K l7 j9052 n x9119 x9123 = some x8769) K (by kernel_rfl) ?_ (fun n a w hI => ?_)
          · refine EQ.keep [0, 1, 5, 6] [(0, .slice A8 l7.length C9), (1, .slice A11 l10.length C12), (5, .slice none ([] : List Int).length 0), (6, .int .i64 0)] (by kernel_rfl) ?_
            exact fun a ha => ⟨([] : List Int), 0, none, 0, ha, (hS.re [0] [] rfl (sub_cons 0 rfl (sub_cons 1 rfl (sub_tail (sub_tail (sub_self)))))), H⟩
          · obtain ⟨x9119, x9123, A9120, C9121, ha, hS, H⟩ := hI
            obtain _ | n := n
            · simp [confidantlaw12_ArenaPlays.l0] at H
            rw [confidantlaw12_ArenaPlays.l0.eq_2] at H
            refine EW.at ?_ a ha
            clear ha a
            refine EW.seq (x := Cd9.r.r.r.r.l.r.l.l.l) (y := Cd9.r.r.r.r.l.r.l.l.r) (by kernel_rfl) ?_
            refine EW.seq (x := Cd9.r.r.r.r.l.r.l.l.l.l) (y := Cd9.r.r.r.r.l.r.l.l.l.r) (by kernel_rfl) ?_
            refine EW.region (id := 7) (ops := Cd9.r.r.r.r.l.r.l.l.l.l.ops) (by kernel_rfl) ?_
            refine EL.quick 4 [0, 1, 5, 6, 39] [(0, .slice A8 l7.length C9), (1, .slice A11 l10.length C12), (5, .slice A9120 x9119.length C9121), (6, .int .i64 x9123), (39, .bool (decide (x9123 < (l7.length : Int))))] (by kernel_rfl) ?_
            refine EL.done (by kernel_rfl) ?_
            refine EQ.code ?_
            refine EW.condP (o := (.tmp 39)) (x := Cd9.r.r.r.r.l.r.l.l.l.r.l) (y := Cd9.r.r.r.r.l.r.l.l.l.r.r) (x9123 < (l7.length : Int)) (by kernel_rfl) (by kernel_rfl) (fun h9156 => ?_) (fun h9156 => ?_)
            · rw [if_pos h9156] at H
              refine EW.skip (by kernel_rfl) ?_
              refine EQ.code ?_
              refine EW.seq (x := Cd9.r.r.r.r.l.r.l.l.r.l) (y := Cd9.r.r.r.r.l.r.l.l.r.r) (by kernel_rfl) ?_
              refine EW.block (x := Cd9.r.r.r.r.l.r.l.l.r.l.l) (id := 1) (by kernel_rfl) ?_
              refine EW.region (id := 9) (ops := Cd9.r.r.r.r.l.r.l.l.r.l.l.ops) (by kernel_rfl) ?_
              refine EL.quick 3 [0, 1, 6, 42, 43, 44] [(0, .slice A8 l7.length C9), (1, .slice A11 l10.length C12), (6, .int .i64 x9123), (42, .slice A9120 x9119.length C9121), (43, .slice A8 l7.length C9), (44, .int .i64 x9123)] (by kernel_rfl) ?_
              obtain ⟨h9167, H⟩ := ite_in H
              obtain ⟨ad9168, rfl⟩ := St.rd_some hS (Rd.ro 0 rfl) h9167 h9156
              refine EL.of (EO.Y (YO.idx 24 1 ad9168 l7.length C9 .i64 x9123 45 (by kernel_rfl) (by kernel_rfl) (by kernel_rfl) (by kernel_rfl) h9167 h9156) ?_)
              refine EL.of (EO.Y (YO.loadEl hS (Kd.int .i64) ad9168 C9 l7 (Rd.ro 0 rfl) 0 (encI .i64) encI_of x9123 h9167 h9156 3 1 0 1 rfl (.int .i64 (l7.getD x9123.toNat 0)) 46 (by kernel_rfl) (by kernel_rfl) (by kernel_rfl) (by kernel_rfl)) ?_)
              obtain ⟨t9169, hc9170, H⟩ := b1_out H
              refine EL.of (EO.callD 33 [.int .i64 (l7.getD x9123.toNat 0), .int .i64 6] _ 47 (by kernel_rfl) (by kernel_rfl) (by kernel_rfl) (confidanthelp_Place.calls hc9170 hS) ?_)
              rintro v w ⟨rfl, hS⟩
              refine EL.quick 1 [0, 1, 6, 42, 48] [(0, .slice (some ad9168) l7.length C9), (1, .slice A11 l10.length C12), (6, .int .i64 x9123), (42, .slice A9120 x9119.length C9121), (48, .int .i64 (IntKind.i64.wrap (t9169 - 1)))] (by kernel_rfl) ?_
              obtain ⟨l9172, hl9172, H⟩ := lt_out H
              refine EL.of (EO.lit hS (Kd.int .i64) 3 24 1 #[(0, .int .i64 (IntKind.i64.wrap (t9169 - 1)))] [.int .i64 (IntKind.i64.wrap (t9169 - 1))] l9172 49 (by kernel_rfl) (by kernel_rfl) (by kernel_rfl) (fun _ => (by kernel_rfl)) (by rw [hl9172]; rfl) (by kernel_rfl) (fun w G hr => (by rw [hl9172]; exact ⟨[.int .i64 (IntKind.i64.wrap (t9169 - 1))], [], rfl, rfl, rfl⟩)) ?_)
              intro g9171 w hS
              obtain ⟨h9173, H⟩ := ite_in H
              obtain ⟨l9174, hl9174, H⟩ := lt_out H
              refine EL.of (EO.append hS 24 24 3 8 1 (Kd.int .i64) A9120 C9121 x9119 rfl (some ⟨g9171, 0, none⟩) 1 l9172 (Rd.own 0 3 rfl) l9174 hl9174 (fun A9175 C9176 => Ass.own 3 (Kd.int .i64) (some ⟨g9171, 0, none⟩) 1 l9172 :: Ass.own 3 (Kd.int .i64) A9175 C9176 l9174 :: os) 50 (by kernel_rfl) (by kernel_rfl) (by kernel_rfl) (by kernel_rfl) h9173 (fun _ _ => rfl) ?_)
              intro A9175 C9176 w hS
              refine EL.quick 1 [0, 1, 5, 6] [(0, .slice (some ad9168) l7.length C9), (1, .slice A11 l10.length C12), (5, .slice A9175 l9174.length C9176), (6, .int .i64 x9123)] (by kernel_rfl) ?_
              refine EL.done (by kernel_rfl) ?_
              refine EQ.pop ?_
              refine EQ.code ?_
              refine EW.region (id := 8) (ops := Cd9.r.r.r.r.l.r.l.l.r.r.ops) (by kernel_rfl) ?_
              refine EL.quick 3 [0, 1, 5, 6] [(0, .slice (some ad9168) l7.length C9), (1, .slice A11 l10.length C12), (5, .slice A9175 l9174.length C9176), (6, .int .i64 (IntKind.i64.wrap (x9123 + 1)))] (by kernel_rfl) ?_
              refine EL.done (by kernel_rfl) ?_
              refine EQ.to ?_
              refine EQ.keep [0, 1, 5, 6] [(0, .slice (some ad9168) l7.length C9), (1, .slice A11 l10.length C12), (5, .slice A9175 l9174.length C9176), (6, .int .i64 (IntKind.i64.wrap (x9123 + 1)))] (by kernel_rfl) ?_
              exact fun a ha => ⟨n, Nat.lt_succ_self n, l9174, IntKind.i64.wrap (x9123 + 1), A9175, C9176, ha, (hS.re [1] [1] rfl (sub_cons 0 rfl (sub_cons 1 rfl (sub_tail (sub_tail (sub_self)))))), H⟩
            · rw [if_neg h9156] at H
              refine EW.exit (id := 0) (by kernel_rfl) ?_
              refine EQ.exitCode ?_
              refine EQ.exitTo ?_
              refine EQ.exitHere ?_
              refine EQ.to ?_
              refine EQ.keep [1, 5] [(1, .slice A11 l10.length C12), (5, .slice A9120 x9119.length C9121)] (by kernel_rfl) ?_
              exact fun a ha => ⟨x9119, A9120, C9121, ha, (hS.re [0] [] rfl (sub_cons 0 rfl (sub_cons 1 rfl (sub_tail (sub_tail (sub_self)))))), H⟩
        · obtain ⟨x9047, A9048, C9049, ha, hS, H⟩ := hI
          rw [hj9052] at H
          (try dsimp only at H)
          refine EW.at ?_ a ha
          clear ha a
          refine EW.seq (x := Cd9.r.r.r.r.r.l) (y := Cd9.r.r.r.r.r.r) (by kernel_rfl) ?_
          refine EW.region (id := 10) (ops := Cd9.r.r.r.r.r.l.ops) (by kernel_rfl) ?_
          refine EL.quick 1 [1, 5, 51] [(1, .slice A11 l10.length C12), (5, .slice A9048 x9047.length C9049), (51, .slice A9048 x9047.length C9049)] (by kernel_rfl) ?_
          have hS := St.fr hS 0 rfl
          have hS : St B _ (os) (Ro.sl (Kd.int .i64) A9048 C9049 x9047 :: Ro.sl (Kd.int .i64) A9048 C9049 x9047 :: Ro.sl (Kd.int .i64) A8 C9 l7 :: Ro.sl kS65 A11 C12 l10 :: rs) := hS.re [] [] rfl (sub_cons 0 rfl sub_self)
          obtain ⟨t9193, t9194, hc9200, H⟩ := b2_out H
          refine EL.of (EO.callD 34 [.slice A9048 x9047.length C9049] _ 52 (by kernel_rfl) (by kernel_rfl) (by kernel_rfl) (arena_New.calls hc9200 hS) ?_)
          rintro v w ⟨g9195, A9196, C9197, A9198, C9199, rfl, hS⟩
          refine EL.quick 1 [1, 52, 53] [(1, .slice A11 l10.length C12), (52, .pointer (some ⟨g9195, 0, none⟩)), (53, .slice A9048 x9047.length C9049)] (by kernel_rfl) ?_
          have hS : St B _ (Ass.box 95 g9195 [.slice A9196 t9193.length C9197, .slice A9198 t9194.length C9199] :: Ass.deep 76 69 kS69 A9196 C9197 t9193 :: Ass.own 3 (Kd.int .i64) A9198 C9199 t9194 :: os) (Ro.sl (Kd.int .i64) A9048 C9049 x9047 :: Ro.sl (Kd.int .i64) A9048 C9049 x9047 :: Ro.sl (Kd.int .i64) A9048 C9049 x9047 :: Ro.sl (Kd.int .i64) A8 C9 l7 :: Ro.sl kS65 A11 C12 l10 :: rs) := hS.re [] [] rfl (sub_cons 0 rfl sub_self)
          obtain ⟨t9201, t9202, hc9208, H⟩ := b2_out H
          refine EL.of (EO.callD 35 [.slice A9048 x9047.length C9049] _ 54 (by kernel_rfl) (by kernel_rfl) (by kernel_rfl) (confidantref12_NewArena.calls hc9208 hS) ?_)
          rintro v w ⟨g9203, A9204, C9205, A9206, C9207, rfl, hS⟩
          refine EL.quick 2 [1, 7, 8] [(1, .slice A11 l10.length C12), (7, .pointer (some ⟨g9195, 0, none⟩)), (8, .pointer (some ⟨g9203, 0, none⟩))] (by kernel_rfl) ?_
          refine EL.done (by kernel_rfl) ?_
          refine EQ.code ?_
          obtain ⟨j13183, hj13183, H⟩ := lt_out H
          refine EW.cut (x := Cd9.r.r.r.r.r.r.l) (y := Cd9.r.r.r.r.r.r.r) (fun a w => ∃ x13177 : List (List S69), ∃ x13180 : List (List S69), ∃ A13178 : Option Addr, ∃ C13179 : Nat, ∃ A13181 : Option Addr, ∃ C13182 : Nat, Sat 214 [(7, .pointer (some ⟨g9195, 0, none⟩)), (8, .pointer (some ⟨g9203, 0, none⟩))] a ∧ St B w (Ass.box 75 g9203 [.slice A9204 t9201.length C9205, .slice A13178 x13177.length C13179] :: Ass.own 3 (Kd.int .i64) A9204 C9205 t9201 :: Ass.deep 76 69 kS69 A13178 C13179 x13177 :: Ass.box 95 g9195 [.slice A13181 x13180.length C13182, .slice A9198 t9194.length C9199] :: Ass.deep 76 69 kS69 A13181 C13182 x13180 :: Ass.own 3 (Kd.int .i64) A9198 C9199 t9194 :: os) (Ro.sl (Kd.int .i64) A9048 C9049 x9047 :: Ro.sl (Kd.int .i64) A9048 C9049 x9047 :: Ro.sl (Kd.int .i64) A9048 C9049 x9047 :: Ro.sl (Kd.int .i64) A8 C9 l7 :: Ro.sl kS65 A11 C12 l10 :: rs) ∧ j13183 x13177 x13180 = some x8769) (by kernel_rfl) ?_ (fun a w hI => ?_)
          · refine EW.seq (x := Cd9.r.r.r.r.r.r.l.l) (y := Cd9.r.r.r.r.r.r.l.r) (by kernel_rfl) ?_
            refine EW.region (id := 11) (ops := Cd9.r.r.r.r.r.r.l.l.ops) (by kernel_rfl) ?_
            refine EL.quick 1 [1, 7, 8, 9] [(1, .slice A11 l10.length C12), (7, .pointer (some ⟨g9195, 0, none⟩)), (8, .pointer (some ⟨g9203, 0, none⟩)), (9, .int .i64 0)] (by kernel_rfl) ?_
            refine EL.done (by kernel_rfl) ?_
            refine EQ.code ?_
            refine EW.block (x := Cd9.r.r.r.r.r.r.l.r.l) (id := 2) (by kernel_rfl) ?_
            refine EW.loop (x := Cd9.r.r.r.r.r.r.l.r.l.l) (fun n a w => ∃ x13844 : List (List S69), ∃ x13847 : List (List S69), ∃ x13850 : Int, ∃ A13845 : Option Addr, ∃ C13846 : Nat, ∃ A13848 : Option Addr, ∃ C13849 : Nat, Sat 214 [(1, .slice A11 l10.length C12), (7, .pointer (some ⟨g9195, 0, none⟩)), (8, .pointer (some ⟨g9203, 0, none⟩)), (9, .int .i64 x13850)] a ∧ St B w (Ass.box 75 g9203 [.slice A9204 t9201.length C9205, .slice A13845 x13844.length C13846] :: Ass.own 3 (Kd.int .i64) A9204 C9205 t9201 :: Ass.deep 76 69 kS69 A13845 C13846 x13844 :: Ass.box 95 g9195 [.slice A13848 x13847.length C13849, .slice A9198 t9194.length C9199] :: Ass.deep 76 69 kS69 A13848 C13849 x13847 :: Ass.own 3 (Kd.int .i64) A9198 C9199 t9194 :: os) (Ro.sl (Kd.int .i64) A9048 C9049 x9047 :: Ro.sl (Kd.int .i64) A9048 C9049 x9047 :: Ro.sl (Kd.int .i64) A9048 C9049 x9047 :: Ro.sl (Kd.int .i64) A8 C9 l7 :: Ro.sl kS65 A11 C12 l10 :: rs) ∧ confidantlaw12_ArenaPlays.l1 K l10 t9194 t9201 j13183 n x13844 x13847 x13850 = some x8769) K (by kernel_rfl) ?_ (fun n a w hI => ?_)
            · refine EQ.keep [1, 7, 8, 9] [(1, .slice A11 l10.length C12), (7, .pointer (some ⟨g9195, 0, none⟩)), (8, .pointer (some ⟨g9203, 0, none⟩)), (9, .int .i64 0)] (by kernel_rfl) ?_
              exact fun a ha => ⟨t9202, t9193, 0, A9206, C9207, A9196, C9197, ha, (hS.re [5, 5, 5, 5, 5, 5] [] rfl (sub_cons 0 rfl (sub_cons 0 rfl (sub_cons 0 rfl (sub_cons 3 rfl (sub_cons 4 rfl (sub_tail (sub_tail (sub_tail (sub_tail (sub_tail (sub_self)))))))))))), H⟩
            · obtain ⟨x13844, x13847, x13850, A13845, C13846, A13848, C13849, ha, hS, H⟩ := hI
              obtain _ | n := n
              · simp [confidantlaw12_ArenaPlays.l1] at H
              rw [confidantlaw12_ArenaPlays.l1.eq_2] at H
              refine EW.at ?_ a ha
              clear ha a
              refine EW.seq (x := Cd9.r.r.r.r.r.r.l.r.l.l.l) (y := Cd9.r.r.r.r.r.r.l.r.l.l.r) (by kernel_rfl) ?_
              refine EW.seq (x := Cd9.r.r.r.r.r.r.l.r.l.l.l.l) (y := Cd9.r.r.r.r.r.r.l.r.l.l.l.r) (by kernel_rfl) ?_
              refine EW.region (id := 12) (ops := Cd9.r.r.r.r.r.r.l.r.l.l.l.l.ops) (by kernel_rfl) ?_
              refine EL.quick 4 [1, 7, 8, 9, 58] [(1, .slice A11 l10.length C12), (7, .pointer (some ⟨g9195, 0, none⟩)), (8, .pointer (some ⟨g9203, 0, none⟩)), (9, .int .i64 x13850), (58, .bool (decide (x13850 < (l10.length : Int))))] (by kernel_rfl) ?_
              refine EL.done (by kernel_rfl) ?_
              refine EQ.code ?_
              refine EW.condP (o := (.tmp 58)) (x := Cd9.r.r.r.r.r.r.l.r.l.l.l.r.l) (y := Cd9.r.r.r.r.r.r.l.r.l.l.l.r.r) (x13850 < (l10.length : Int)) (by kernel_rfl) (by kernel_rfl) (fun h14516 => ?_) (fun h14516 => ?_)
              · rw [if_pos h14516] at H
                refine EW.skip (by kernel_rfl) ?_
                refine EQ.code ?_
                refine EW.seq (x := Cd9.r.r.r.r.r.r.l.r.l.l.r.l) (y := Cd9.r.r.r.r.r.r.l.r.l.l.r.r) (by kernel_rfl) ?_
                refine EW.block (x := Cd9.r.r.r.r.r.r.l.r.l.l.r.l.l) (id := 3) (by kernel_rfl) ?_
                refine EW.seq (x := Cd9.r.r.r.r.r.r.l.r.l.l.r.l.l.l) (y := Cd9.r.r.r.r.r.r.l.r.l.l.r.l.l.r) (by kernel_rfl) ?_
                refine EW.region (id := 14) (ops := Cd9.r.r.r.r.r.r.l.r.l.l.r.l.l.l.ops) (by kernel_rfl) ?_
                refine EL.quick 2 [1, 7, 8, 9, 61, 62] [(1, .slice A11 l10.length C12), (7, .pointer (some ⟨g9195, 0, none⟩)), (8, .pointer (some ⟨g9203, 0, none⟩)), (9, .int .i64 x13850), (61, .slice A11 l10.length C12), (62, .int .i64 x13850)] (by kernel_rfl) ?_
                obtain ⟨h14844, H⟩ := ite_in H
                obtain ⟨ad14845, rfl⟩ := St.rd_some hS (Rd.ro 4 rfl) h14844 h14516
                refine EL.of (EO.Y (YO.idx 58 6 ad14845 l10.length C12 .i64 x13850 63 (by kernel_rfl) (by kernel_rfl) (by kernel_rfl) (by kernel_rfl) h14844 h14516) ?_)
                refine EL.of (EO.Y (YO.loadEl hS kS65 ad14845 C12 l10 (Rd.ro 4 rfl) zS65 encS65 encS65_of x13850 h14844 h14516 65 6 0 6 rfl (.agg #[.int .u8 ((l10.getD x13850.toNat zS65).f0), .int .u8 ((l10.getD x13850.toNat zS65).f1), .int .u8 ((l10.getD x13850.toNat zS65).f2), .int .u8 ((l10.getD x13850.toNat zS65).f3), .int .i32 ((l10.getD x13850.toNat zS65).f4), .int .i32 ((l10.getD x13850.toNat zS65).f5)]) 64 (by kernel_rfl) (by kernel_rfl) (by kernel_rfl) (by kernel_rfl)) ?_)
                refine EL.of (EO.alloc hS 65 (.agg #[.int .u8 0, .int .u8 0, .int .u8 0, .int .u8 0, .int .i32 0, .int .i32 0]) [.int .u8 0, .int .u8 0, .int .u8 0, .int .u8 0, .int .i32 0, .int .i32 0] 10 (by kernel_rfl) (by kernel_rfl) (by kernel_rfl) (by kernel_rfl) (by first | rfl | kernel_rfl) ?_)
                intro g14846 w hS
                refine EL.of (EO.storeBox (os' := Ass.box 65 g14846 [.int .u8 ((l10.getD x13850.toNat zS65).f0), .int .u8 ((l10.getD x13850.toNat zS65).f1), .int .u8 ((l10.getD x13850.toNat zS65).f2), .int .u8 ((l10.getD x13850.toNat zS65).f3), .int .i32 ((l10.getD x13850.toNat zS65).f4), .int .i32 ((l10.getD x13850.toNat zS65).f5)] :: Ass.box 75 g9203 [.slice A9204 t9201.length C9205, .slice A13845 x13844.length C13846] :: Ass.own 3 (Kd.int .i64) A9204 C9205 t9201 :: Ass.deep 76 69 kS69 A13845 C13846 x13844 :: Ass.box 95 g9195 [.slice A13848 x13847.length C13849, .slice A9198 t9194.length C9199] :: Ass.deep 76 69 kS69 A13848 C13849 x13847 :: Ass.own 3 (Kd.int .i64) A9198 C9199 t9194 :: os) hS 0 rfl 65 0 (.agg #[.int .u8 ((l10.getD x13850.toNat zS65).f0), .int .u8 ((l10.getD x13850.toNat zS65).f1), .int .u8 ((l10.getD x13850.toNat zS65).f2), .int .u8 ((l10.getD x13850.toNat zS65).f3), .int .i32 ((l10.getD x13850.toNat zS65).f4), .int .i32 ((l10.getD x13850.toNat zS65).f5)]) [.int .u8 ((l10.getD x13850.toNat zS65).f0), .int .u8 ((l10.getD x13850.toNat zS65).f1), .int .u8 ((l10.getD x13850.toNat zS65).f2), .int .u8 ((l10.getD x13850.toNat zS65).f3), .int .i32 ((l10.getD x13850.toNat zS65).f4), .int .i32 ((l10.getD x13850.toNat zS65).f5)] (by kernel_rfl) (by kernel_rfl) (by kernel_rfl) (by kernel_rfl) (by kernel_rfl) (by kernel_rfl) rfl rfl ?_)
                intro w hS
                refine EL.done (by kernel_rfl) ?_
                refine EQ.code ?_
                refine EW.seq (x := Cd9.r.r.r.r.r.r.l.r.l.l.r.l.l.r.l) (y := Cd9.r.r.r.r.r.r.l.r.l.l.r.l.l.r.r) (by kernel_rfl) ?_
                have hS := hS.drew
                refine EW.draw (B := B) (id := 15) (ops := Cd9.r.r.r.r.r.r.l.r.l.l.r.l.l.r.l.ops) [Ass.box 65 g14846 [.int .u8 ((l10.getD x13850.toNat zS65).f0), .int .u8 ((l10.getD x13850.toNat zS65).f1), .int .u8 ((l10.getD x13850.toNat zS65).f2), .int .u8 ((l10.getD x13850.toNat zS65).f3), .int .i32 ((l10.getD x13850.toNat zS65).f4), .int .i32 ((l10.getD x13850.toNat zS65).f5)], Ass.box 75 g9203 [.slice A9204 t9201.length C9205, .slice A13845 x13844.length C13846], Ass.own 3 (Kd.int .i64) A9204 C9205 t9201, Ass.deep 76 69 kS69 A13845 C13846 x13844, Ass.box 95 g9195 [.slice A13848 x13847.length C13849, .slice A9198 t9194.length C9199], Ass.deep 76 69 kS69 A13848 C13849 x13847, Ass.own 3 (Kd.int .i64) A9198 C9199 t9194] [Ro.sl (Kd.int .i64) A9048 C9049 x9047, Ro.sl (Kd.int .i64) A9048 C9049 x9047, Ro.sl (Kd.int .i64) A9048 C9049 x9047, Ro.sl (Kd.int .i64) A8 C9 l7, Ro.sl kS65 (some ad14845) C12 l10] (by kernel_rfl) (by kernel_rfl) ?_
                have hN : Region.noSelect Cd9.r.r.r.r.r.r.l.r.l.l.r.l.l.r.l.ops = true := (by kernel_rfl)
                have hF : freeAll Cd9.r.r.r.r.r.r.l.r.l.l.r.l.l.r.l.ops = true := (by kernel_rfl)
                have hC : Core B [Ass.box 65 g14846 [.int .u8 ((l10.getD x13850.toNat zS65).f0), .int .u8 ((l10.getD x13850.toNat zS65).f1), .int .u8 ((l10.getD x13850.toNat zS65).f2), .int .u8 ((l10.getD x13850.toNat zS65).f3), .int .i32 ((l10.getD x13850.toNat zS65).f4), .int .i32 ((l10.getD x13850.toNat zS65).f5)], Ass.box 75 g9203 [.slice A9204 t9201.length C9205, .slice A13845 x13844.length C13846], Ass.own 3 (Kd.int .i64) A9204 C9205 t9201, Ass.deep 76 69 kS69 A13845 C13846 x13844, Ass.box 95 g9195 [.slice A13848 x13847.length C13849, .slice A9198 t9194.length C9199], Ass.deep 76 69 kS69 A13848 C13849 x13847, Ass.own 3 (Kd.int .i64) A9198 C9199 t9194] [Ro.sl (Kd.int .i64) A9048 C9049 x9047, Ro.sl (Kd.int .i64) A9048 C9049 x9047, Ro.sl (Kd.int .i64) A9048 C9049 x9047, Ro.sl (Kd.int .i64) A8 C9 l7, Ro.sl kS65 (some ad14845) C12 l10] _ := ⟨_, _, hS⟩
                refine ED.quick hN hF hC [0, 5] [1, 7, 8, 9, 10, 65, 70] 9 [(1, .slice (some ad14845) l10.length C12), (7, .pointer (some ⟨g9195, 0, none⟩)), (8, .pointer (some ⟨g9203, 0, none⟩)), (9, .int .i64 x13850), (10, .pointer (some ⟨g14846, 0, none⟩)), (65, .pointer (some ⟨g14846, 1, none⟩)), (70, .pointer (some ⟨g14846, 2, none⟩))] #[true, false, false, false, false, true, false, false, false, false, false] (by kernel_rfl) (by kernel_rfl) ?_
                refine ED.Y hN hF hC 1 8 #[true, true, false, false, false, true, false, false, false, false, false] (by kernel_rfl) (by kernel_rfl) rfl (fun _ _ _ hS => YO.loadBox hS 0 rfl 5 1 1 (.int .u8 ((l10.getD x13850.toNat zS65).f1)) 66 (by kernel_rfl) (by kernel_rfl) (by kernel_rfl) (by kernel_rfl)) ?_
                refine ED.quick hN hF hC [2, 3, 4, 9] [1, 7, 8, 9, 10, 11, 70] 4 [(1, .slice (some ad14845) l10.length C12), (7, .pointer (some ⟨g9195, 0, none⟩)), (8, .pointer (some ⟨g9203, 0, none⟩)), (9, .int .i64 x13850), (10, .pointer (some ⟨g14846, 0, none⟩)), (11, .int .i64 (IntKind.i64.wrap ((IntKind.i64.wrap (Int.tmod ((l10.getD x13850.toNat zS65).f1) 18)) - 1))), (70, .pointer (some ⟨g14846, 2, none⟩))] #[true, true, true, true, true, true, false, false, false, true, false] (by kernel_rfl) (by kernel_rfl) ?_
                refine ED.Y hN hF hC 6 3 #[true, true, true, true, true, true, true, false, false, true, false] (by kernel_rfl) (by kernel_rfl) rfl (fun _ _ _ hS => YO.loadBox hS 0 rfl 5 2 1 (.int .u8 ((l10.getD x13850.toNat zS65).f2)) 71 (by kernel_rfl) (by kernel_rfl) (by kernel_rfl) (by kernel_rfl)) ?_
                refine ED.quick hN hF hC [7, 8, 10] [1, 7, 8, 9, 10, 11, 12] 0 [(1, .slice (some ad14845) l10.length C12), (7, .pointer (some ⟨g9195, 0, none⟩)), (8, .pointer (some ⟨g9203, 0, none⟩)), (9, .int .i64 x13850), (10, .pointer (some ⟨g14846, 0, none⟩)), (11, .int .i64 (IntKind.i64.wrap ((IntKind.i64.wrap (Int.tmod ((l10.getD x13850.toNat zS65).f1) 18)) - 1))), (12, .int .i64 (IntKind.i64.wrap (Int.tmod ((l10.getD x13850.toNat zS65).f2) 16)))] #[true, true, true, true, true, true, true, true, true, true, true] (by kernel_rfl) (by kernel_rfl) ?_
                refine ED.done (by kernel_rfl) ?_
                refine EQ.code ?_
                refine EW.seq (x := Cd9.r.r.r.r.r.r.l.r.l.l.r.l.l.r.r.l) (y := Cd9.r.r.r.r.r.r.l.r.l.l.r.l.l.r.r.r) (by kernel_rfl) ?_
                refine EW.region (id := 16) (ops := Cd9.r.r.r.r.r.r.l.r.l.l.r.l.l.r.r.l.ops) (by kernel_rfl) ?_
                refine EL.quick 1 [1, 7, 8, 9, 10, 11, 12, 74] [(1, .slice (some ad14845) l10.length C12), (7, .pointer (some ⟨g9195, 0, none⟩)), (8, .pointer (some ⟨g9203, 0, none⟩)), (9, .int .i64 x13850), (10, .pointer (some ⟨g14846, 0, none⟩)), (11, .int .i64 (IntKind.i64.wrap ((IntKind.i64.wrap (Int.tmod ((l10.getD x13850.toNat zS65).f1) 18)) - 1))), (12, .int .i64 (IntKind.i64.wrap (Int.tmod ((l10.getD x13850.toNat zS65).f2) 16))), (74, .pointer (some ⟨g14846, 1, none⟩))] (by kernel_rfl) ?_
                refine EL.of (EO.Y (YO.loadBox hS 0 rfl 5 1 1 (.int .u8 ((l10.getD x13850.toNat zS65).f1)) 75 (by kernel_rfl) (by kernel_rfl) (by kernel_rfl) (by kernel_rfl)) ?_)
                refine EL.quick 4 [1, 7, 8, 9, 10, 11, 12, 78, 79] [(1, .slice (some ad14845) l10.length C12), (7, .pointer (some ⟨g9195, 0, none⟩)), (8, .pointer (some ⟨g9203, 0, none⟩)), (9, .int .i64 x13850), (10, .pointer (some ⟨g14846, 0, none⟩)), (11, .int .i64 (IntKind.i64.wrap ((IntKind.i64.wrap (Int.tmod ((l10.getD x13850.toNat zS65).f1) 18)) - 1))), (12, .int .i64 (IntKind.i64.wrap (Int.tmod ((l10.getD x13850.toNat zS65).f2) 16))), (78, .int .i32 (IntKind.i32.wrap ((IntKind.i32.wrap (Int.tmod ((l10.getD x13850.toNat zS65).f1) 4)) * 65536))), (79, .pointer (some ⟨g14846, 3, none⟩))] (by kernel_rfl) ?_
                refine EL.of (EO.Y (YO.loadBox hS 0 rfl 5 3 1 (.int .u8 ((l10.getD x13850.toNat zS65).f3)) 80 (by kernel_rfl) (by kernel_rfl) (by kernel_rfl) (by kernel_rfl)) ?_)
                refine EL.quick 4 [1, 7, 8, 9, 10, 11, 12, 13] [(1, .slice (some ad14845) l10.length C12), (7, .pointer (some ⟨g9195, 0, none⟩)), (8, .pointer (some ⟨g9203, 0, none⟩)), (9, .int .i64 x13850), (10, .pointer (some ⟨g14846, 0, none⟩)), (11, .int .i64 (IntKind.i64.wrap ((IntKind.i64.wrap (Int.tmod ((l10.getD x13850.toNat zS65).f1) 18)) - 1))), (12, .int .i64 (IntKind.i64.wrap (Int.tmod ((l10.getD x13850.toNat zS65).f2) 16))), (13, .int .i32 (IntKind.i32.wrap ((IntKind.i32.wrap ((IntKind.i32.wrap (Int.tmod ((l10.getD x13850.toNat zS65).f1) 4)) * 65536)) + (IntKind.i32.wrap (Int.tmod ((l10.getD x13850.toNat zS65).f3) 5)))))] (by kernel_rfl) ?_
                obtain ⟨y14849, hy14849, H⟩ := lt_out H
                obtain ⟨y14850, hy14850, H⟩ := lt_out H
                refine EL.keep [1, 7, 8, 9, 10, 11, 12, 13] [(1, .slice (some ad14845) l10.length C12), (7, .pointer (some ⟨g9195, 0, none⟩)), (8, .pointer (some ⟨g9203, 0, none⟩)), (9, .int .i64 x13850), (10, .pointer (some ⟨g14846, 0, none⟩)), (11, .int .i64 (IntKind.i64.wrap ((IntKind.i64.wrap (Int.tmod ((l10.getD x13850.toNat zS65).f1) 18)) - 1))), (12, .int .i64 (IntKind.i64.wrap (Int.tmod ((l10.getD x13850.toNat zS65).f2) 16))), (13, .int .i32 (IntKind.i32.wrap ((IntKind.i32.wrap ((IntKind.i32.wrap (Int.tmod ((l10.getD x13850.toNat zS65).f1) 4)) * 65536)) + (IntKind.i32.wrap (Int.tmod ((l10.getD x13850.toNat zS65).f3) 5)))))] (by kernel_rfl) ?_
                refine EL.as' [(1, .slice (some ad14845) l10.length C12), (7, .pointer (some ⟨g9195, 0, none⟩)), (8, .pointer (some ⟨g9203, 0, none⟩)), (9, .int .i64 x13850), (10, .pointer (some ⟨g14846, 0, none⟩)), (11, .int .i64 y14849), (12, .int .i64 (IntKind.i64.wrap (Int.tmod ((l10.getD x13850.toNat zS65).f2) 16))), (13, .int .i32 y14850)] (by subst hy14849; subst hy14850; rfl) ?_
                refine EL.done (by kernel_rfl) ?_
                refine EQ.code ?_
                obtain ⟨j14855, hj14855, H⟩ := lt_out H
                refine EW.cut (x := Cd9.r.r.r.r.r.r.l.r.l.l.r.l.l.r.r.r.l) (y := Cd9.r.r.r.r.r.r.l.r.l.l.r.l.l.r.r.r.r) (fun a w => ∃ x14854 : Int, Sat 214 [(1, .slice (some ad14845) l10.length C12), (7, .pointer (some ⟨g9195, 0, none⟩)), (8, .pointer (some ⟨g9203, 0, none⟩)), (9, .int .i64 x13850), (10, .pointer (some ⟨g14846, 0, none⟩)), (11, .int .i64 y14849), (12, .int .i64 (IntKind.i64.wrap (Int.tmod ((l10.getD x13850.toNat zS65).f2) 16))), (13, .int .i32 x14854)] a ∧ St B w (Ass.box 65 g14846 [.int .u8 ((l10.getD x13850.toNat zS65).f0), .int .u8 ((l10.getD x13850.toNat zS65).f1), .int .u8 ((l10.getD x13850.toNat zS65).f2), .int .u8 ((l10.getD x13850.toNat zS65).f3), .int .i32 ((l10.getD x13850.toNat zS65).f4), .int .i32 ((l10.getD x13850.toNat zS65).f5)] :: Ass.box 75 g9203 [.slice A9204 t9201.length C9205, .slice A13845 x13844.length C13846] :: Ass.own 3 (Kd.int .i64) A9204 C9205 t9201 :: Ass.deep 76 69 kS69 A13845 C13846 x13844 :: Ass.box 95 g9195 [.slice A13848 x13847.length C13849, .slice A9198 t9194.length C9199] :: Ass.deep 76 69 kS69 A13848 C13849 x13847 :: Ass.own 3 (Kd.int .i64) A9198 C9199 t9194 :: os) (Ro.sl (Kd.int .i64) A9048 C9049 x9047 :: Ro.sl (Kd.int .i64) A9048 C9049 x9047 :: Ro.sl (Kd.int .i64) A9048 C9049 x9047 :: Ro.sl (Kd.int .i64) A8 C9 l7 :: Ro.sl kS65 (some ad14845) C12 l10 :: rs) ∧ j14855 x14854 = some x8769) (by kernel_rfl) ?_ (fun a w hI => ?_)
                · refine EW.seq (x := Cd9.r.r.r.r.r.r.l.r.l.l.r.l.l.r.r.r.l.l) (y := Cd9.r.r.r.r.r.r.l.r.l.l.r.l.l.r.r.r.l.r) (by kernel_rfl) ?_
                  refine EW.region (id := 17) (ops := Cd9.r.r.r.r.r.r.l.r.l.l.r.l.l.r.r.r.l.l.ops) (by kernel_rfl) ?_
                  refine EL.quick 1 [1, 7, 8, 9, 10, 11, 12, 13, 84] [(1, .slice (some ad14845) l10.length C12), (7, .pointer (some ⟨g9195, 0, none⟩)), (8, .pointer (some ⟨g9203, 0, none⟩)), (9, .int .i64 x13850), (10, .pointer (some ⟨g14846, 0, none⟩)), (11, .int .i64 y14849), (12, .int .i64 (IntKind.i64.wrap (Int.tmod ((l10.getD x13850.toNat zS65).f2) 16))), (13, .int .i32 y14850), (84, .pointer (some ⟨g14846, 3, none⟩))] (by kernel_rfl) ?_
                  refine EL.of (EO.Y (YO.loadBox hS 0 rfl 5 3 1 (.int .u8 ((l10.getD x13850.toNat zS65).f3)) 85 (by kernel_rfl) (by kernel_rfl) (by kernel_rfl) (by kernel_rfl)) ?_)
                  refine EL.quick 1 [1, 7, 8, 9, 10, 11, 12, 13, 86] [(1, .slice (some ad14845) l10.length C12), (7, .pointer (some ⟨g9195, 0, none⟩)), (8, .pointer (some ⟨g9203, 0, none⟩)), (9, .int .i64 x13850), (10, .pointer (some ⟨g14846, 0, none⟩)), (11, .int .i64 y14849), (12, .int .i64 (IntKind.i64.wrap (Int.tmod ((l10.getD x13850.toNat zS65).f2) 16))), (13, .int .i32 y14850), (86, .bool (decide (((l10.getD x13850.toNat zS65).f3) > 230)))] (by kernel_rfl) ?_
                  refine EL.done (by kernel_rfl) ?_
                  refine EQ.code ?_
                  refine EW.condP (o := (.tmp 86)) (x := Cd9.r.r.r.r.r.r.l.r.l.l.r.l.l.r.r.r.l.r.l) (y := Cd9.r.r.r.r.r.r.l.r.l.l.r.l.l.r.r.r.l.r.r) (((l10.getD x13850.toNat zS65).f3) > 230) (by kernel_rfl) (by kernel_rfl) (fun h14856 => ?_) (fun h14856 => ?_)
                  · rw [if_pos h14856] at H
                    refine EW.region (id := 18) (ops := Cd9.r.r.r.r.r.r.l.r.l.l.r.l.l.r.r.r.l.r.l.ops) (by kernel_rfl) ?_
                    refine EL.quick 1 [1, 7, 8, 9, 10, 11, 12, 87] [(1, .slice (some ad14845) l10.length C12), (7, .pointer (some ⟨g9195, 0, none⟩)), (8, .pointer (some ⟨g9203, 0, none⟩)), (9, .int .i64 x13850), (10, .pointer (some ⟨g14846, 0, none⟩)), (11, .int .i64 y14849), (12, .int .i64 (IntKind.i64.wrap (Int.tmod ((l10.getD x13850.toNat zS65).f2) 16))), (87, .pointer (some ⟨g14846, 5, none⟩))] (by kernel_rfl) ?_
                    refine EL.of (EO.Y (YO.loadBox hS 0 rfl 21 5 1 (.int .i32 ((l10.getD x13850.toNat zS65).f5)) 88 (by kernel_rfl) (by kernel_rfl) (by kernel_rfl) (by kernel_rfl)) ?_)
                    refine EL.quick 1 [1, 7, 8, 9, 10, 11, 12, 13] [(1, .slice (some ad14845) l10.length C12), (7, .pointer (some ⟨g9195, 0, none⟩)), (8, .pointer (some ⟨g9203, 0, none⟩)), (9, .int .i64 x13850), (10, .pointer (some ⟨g14846, 0, none⟩)), (11, .int .i64 y14849), (12, .int .i64 (IntKind.i64.wrap (Int.tmod ((l10.getD x13850.toNat zS65).f2) 16))), (13, .int .i32 ((l10.getD x13850.toNat zS65).f5))] (by kernel_rfl) ?_
                    refine EL.done (by kernel_rfl) ?_
                    refine EQ.to ?_
                    refine EQ.keep [1, 7, 8, 9, 10, 11, 12, 13] [(1, .slice (some ad14845) l10.length C12), (7, .pointer (some ⟨g9195, 0, none⟩)), (8, .pointer (some ⟨g9203, 0, none⟩)), (9, .int .i64 x13850), (10, .pointer (some ⟨g14846, 0, none⟩)), (11, .int .i64 y14849), (12, .int .i64 (IntKind.i64.wrap (Int.tmod ((l10.getD x13850.toNat zS65).f2) 16))), (13, .int .i32 ((l10.getD x13850.toNat zS65).f5))] (by kernel_rfl) ?_
                    exact fun a ha => ⟨(l10.getD x13850.toNat zS65).f5, ha, (hS.re [6, 6, 6, 6, 6, 6, 6] [] rfl (sub_cons 0 rfl (sub_cons 0 rfl (sub_cons 0 rfl (sub_cons 3 rfl (sub_cons 4 rfl (sub_tail (sub_tail (sub_tail (sub_tail (sub_tail (sub_self)))))))))))), H⟩
                  · rw [if_neg h14856] at H
                    refine EW.skip (by kernel_rfl) ?_
                    refine EQ.to ?_
                    refine EQ.keep [1, 7, 8, 9, 10, 11, 12, 13] [(1, .slice (some ad14845) l10.length C12), (7, .pointer (some ⟨g9195, 0, none⟩)), (8, .pointer (some ⟨g9203, 0, none⟩)), (9, .int .i64 x13850), (10, .pointer (some ⟨g14846, 0, none⟩)), (11, .int .i64 y14849), (12, .int .i64 (IntKind.i64.wrap (Int.tmod ((l10.getD x13850.toNat zS65).f2) 16))), (13, .int .i32 y14850)] (by kernel_rfl) ?_
                    exact fun a ha => ⟨y14850, ha, (hS.re [6, 6, 6, 6, 6, 6, 6] [] rfl (sub_cons 0 rfl (sub_cons 0 rfl (sub_cons 0 rfl (sub_cons 3 rfl (sub_cons 4 rfl (sub_tail (sub_tail (sub_tail (sub_tail (sub_tail (sub_self)))))))))))), H⟩
                · obtain ⟨x14854, ha, hS, H⟩ := hI
                  rw [hj14855] at H
                  (try dsimp only at H)
                  refine EW.at ?_ a ha
                  clear ha a
                  obtain ⟨j15049, hj15049, H⟩ := lt_out H
                  refine EW.cut (x := Cd9.r.r.r.r.r.r.l.r.l.l.r.l.l.r.r.r.r.l) (y := Cd9.r.r.r.r.r.r.l.r.l.l.r.l.l.r.r.r.r.r) (fun a w => ∃ x15043 : List (List S69), ∃ x15046 : List (List S69), ∃ A15044 : Option Addr, ∃ C15045 : Nat, ∃ A15047 : Option Addr, ∃ C15048 : Nat, Sat 214 [(1, .slice (some ad14845) l10.length C12), (7, .pointer (some ⟨g9195, 0, none⟩)), (8, .pointer (some ⟨g9203, 0, none⟩)), (9, .int .i64 x13850), (11, .int .i64 y14849)] a ∧ St B w (Ass.box 75 g9203 [.slice A9204 t9201.length C9205, .slice A15044 x15043.length C15045] :: Ass.own 3 (Kd.int .i64) A9204 C9205 t9201 :: Ass.deep 76 69 kS69 A15044 C15045 x15043 :: Ass.box 95 g9195 [.slice A15047 x15046.length C15048, .slice A9198 t9194.length C9199] :: Ass.deep 76 69 kS69 A15047 C15048 x15046 :: Ass.own 3 (Kd.int .i64) A9198 C9199 t9194 :: Ass.box 65 g14846 [.int .u8 ((l10.getD x13850.toNat zS65).f0), .int .u8 ((l10.getD x13850.toNat zS65).f1), .int .u8 ((l10.getD x13850.toNat zS65).f2), .int .u8 ((l10.getD x13850.toNat zS65).f3), .int .i32 ((l10.getD x13850.toNat zS65).f4), .int .i32 ((l10.getD x13850.toNat zS65).f5)] :: os) (Ro.sl (Kd.int .i64) A9048 C9049 x9047 :: Ro.sl (Kd.int .i64) A9048 C9049 x9047 :: Ro.sl (Kd.int .i64) A9048 C9049 x9047 :: Ro.sl (Kd.int .i64) A8 C9 l7 :: Ro.sl kS65 (some ad14845) C12 l10 :: rs) ∧ j15049 x15043 x15046 = some x8769) (by kernel_rfl) ?_ (fun a w hI => ?_)
                  · refine EW.seq (x := Cd9.r.r.r.r.r.r.l.r.l.l.r.l.l.r.r.r.r.l.l) (y := Cd9.r.r.r.r.r.r.l.r.l.l.r.l.l.r.r.r.r.l.r) (by kernel_rfl) ?_
                    refine EW.region (id := 19) (ops := Cd9.r.r.r.r.r.r.l.r.l.l.r.l.l.r.r.r.r.l.l.ops) (by kernel_rfl) ?_
                    refine EL.quick 1 [1, 7, 8, 9, 10, 11, 12, 13, 89] [(1, .slice (some ad14845) l10.length C12), (7, .pointer (some ⟨g9195, 0, none⟩)), (8, .pointer (some ⟨g9203, 0, none⟩)), (9, .int .i64 x13850), (10, .pointer (some ⟨g14846, 0, none⟩)), (11, .int .i64 y14849), (12, .int .i64 (IntKind.i64.wrap (Int.tmod ((l10.getD x13850.toNat zS65).f2) 16))), (13, .int .i32 x14854), (89, .pointer (some ⟨g14846, 0, none⟩))] (by kernel_rfl) ?_
                    refine EL.of (EO.Y (YO.loadBox hS 0 rfl 5 0 1 (.int .u8 ((l10.getD x13850.toNat zS65).f0)) 90 (by kernel_rfl) (by kernel_rfl) (by kernel_rfl) (by kernel_rfl)) ?_)
                    refine EL.quick 1 [1, 7, 8, 9, 10, 11, 12, 13, 91] [(1, .slice (some ad14845) l10.length C12), (7, .pointer (some ⟨g9195, 0, none⟩)), (8, .pointer (some ⟨g9203, 0, none⟩)), (9, .int .i64 x13850), (10, .pointer (some ⟨g14846, 0, none⟩)), (11, .int .i64 y14849), (12, .int .i64 (IntKind.i64.wrap (Int.tmod ((l10.getD x13850.toNat zS65).f2) 16))), (13, .int .i32 x14854), (91, .int .u8 (Int.tmod ((l10.getD x13850.toNat zS65).f0) 5))] (by kernel_rfl) ?_
                    refine EL.done (by kernel_rfl) ?_
                    refine EQ.code ?_
                    refine EW.block (x := Cd9.r.r.r.r.r.r.l.r.l.l.r.l.l.r.r.r.r.l.r.l) (id := 4) (by kernel_rfl) ?_
                    obtain ⟨j15056, hj15056, H⟩ := lt_out H
                    refine EW.cut (x := Cd9.r.r.r.r.r.r.l.r.l.l.r.l.l.r.r.r.r.l.r.l.l) (y := Cd9.r.r.r.r.r.r.l.r.l.l.r.l.l.r.r.r.r.l.r.l.r) (fun a w => ∃ x15055 : Bool, Sat 214 [(1, .slice (some ad14845) l10.length C12), (7, .pointer (some ⟨g9195, 0, none⟩)), (8, .pointer (some ⟨g9203, 0, none⟩)), (9, .int .i64 x13850), (10, .pointer (some ⟨g14846, 0, none⟩)), (11, .int .i64 y14849), (12, .int .i64 (IntKind.i64.wrap (Int.tmod ((l10.getD x13850.toNat zS65).f2) 16))), (13, .int .i32 x14854), (91, .int .u8 (Int.tmod ((l10.getD x13850.toNat zS65).f0) 5)), (103, .bool (x15055))] a ∧ St B w (Ass.box 65 g14846 [.int .u8 ((l10.getD x13850.toNat zS65).f0), .int .u8 ((l10.getD x13850.toNat zS65).f1), .int .u8 ((l10.getD x13850.toNat zS65).f2), .int .u8 ((l10.getD x13850.toNat zS65).f3), .int .i32 ((l10.getD x13850.toNat zS65).f4), .int .i32 ((l10.getD x13850.toNat zS65).f5)] :: Ass.box 75 g9203 [.slice A9204 t9201.length C9205, .slice A13845 x13844.length C13846] :: Ass.own 3 (Kd.int .i64) A9204 C9205 t9201 :: Ass.deep 76 69 kS69 A13845 C13846 x13844 :: Ass.box 95 g9195 [.slice A13848 x13847.length C13849, .slice A9198 t9194.length C9199] :: Ass.deep 76 69 kS69 A13848 C13849 x13847 :: Ass.own 3 (Kd.int .i64) A9198 C9199 t9194 :: os) (Ro.sl (Kd.int .i64) A9048 C9049 x9047 :: Ro.sl (Kd.int .i64) A9048 C9049 x9047 :: Ro.sl (Kd.int .i64) A9048 C9049 x9047 :: Ro.sl (Kd.int .i64) A8 C9 l7 :: Ro.sl kS65 (some ad14845) C12 l10 :: rs) ∧ j15056 x15055 = some x8769) (by kernel_rfl) ?_ (fun a w hI => ?_)
                    · refine EW.seq (x := Cd9.r.r.r.r.r.r.l.r.l.l.r.l.l.r.r.r.r.l.r.l.l.l) (y := Cd9.r.r.r.r.r.r.l.r.l.l.r.l.l.r.r.r.r.l.r.l.l.r) (by kernel_rfl) ?_
                      refine EW.region (id := 22) (ops := Cd9.r.r.r.r.r.r.l.r.l.l.r.l.l.r.r.r.r.l.r.l.l.l.ops) (by kernel_rfl) ?_
                      refine EL.quick 2 [1, 7, 8, 9, 10, 11, 12, 13, 91, 103] [(1, .slice (some ad14845) l10.length C12), (7, .pointer (some ⟨g9195, 0, none⟩)), (8, .pointer (some ⟨g9203, 0, none⟩)), (9, .int .i64 x13850), (10, .pointer (some ⟨g14846, 0, none⟩)), (11, .int .i64 y14849), (12, .int .i64 (IntKind.i64.wrap (Int.tmod ((l10.getD x13850.toNat zS65).f2) 16))), (13, .int .i32 x14854), (91, .int .u8 (Int.tmod ((l10.getD x13850.toNat zS65).f0) 5)), (103, .bool (decide ((Int.tmod ((l10.getD x13850.toNat zS65).f0) 5) = 0)))] (by kernel_rfl) ?_
                      refine EL.done (by kernel_rfl) ?_
                      refine EQ.code ?_
                      refine EW.condP (o := (.tmp 103)) (x := Cd9.r.r.r.r.r.r.l.r.l.l.r.l.l.r.r.r.r.l.r.l.l.r.l) (y := Cd9.r.r.r.r.r.r.l.r.l.l.r.l.l.r.r.r.r.l.r.l.l.r.r) ((Int.tmod ((l10.getD x13850.toNat zS65).f0) 5) = 0) (by kernel_rfl) (by kernel_rfl) (fun h15057 => ?_) (fun h15057 => ?_)
                      · rw [if_pos h15057] at H
                        refine EW.keep [1, 7, 8, 9, 10, 11, 12, 13, 91, 103] [(1, .slice (some ad14845) l10.length C12), (7, .pointer (some ⟨g9195, 0, none⟩)), (8, .pointer (some ⟨g9203, 0, none⟩)), (9, .int .i64 x13850), (10, .pointer (some ⟨g14846, 0, none⟩)), (11, .int .i64 y14849), (12, .int .i64 (IntKind.i64.wrap (Int.tmod ((l10.getD x13850.toNat zS65).f2) 16))), (13, .int .i32 x14854), (91, .int .u8 (Int.tmod ((l10.getD x13850.toNat zS65).f0) 5)), (103, .bool (decide ((Int.tmod ((l10.getD x13850.toNat zS65).f0) 5) = 0)))] (by kernel_rfl) ?_
                        refine EW.as' [(1, .slice (some ad14845) l10.length C12), (7, .pointer (some ⟨g9195, 0, none⟩)), (8, .pointer (some ⟨g9203, 0, none⟩)), (9, .int .i64 x13850), (10, .pointer (some ⟨g14846, 0, none⟩)), (11, .int .i64 y14849), (12, .int .i64 (IntKind.i64.wrap (Int.tmod ((l10.getD x13850.toNat zS65).f2) 16))), (13, .int .i32 x14854), (91, .int .u8 (Int.tmod ((l10.getD x13850.toNat zS65).f0) 5)), (103, .bool (true))] (by simp only [dec_t h15057, Bool.not_true, Bool.not_false]) ?_
                        refine EW.skip (by kernel_rfl) ?_
                        refine EQ.to ?_
                        refine EQ.keep [1, 7, 8, 9, 10, 11, 12, 13, 91, 103] [(1, .slice (some ad14845) l10.length C12), (7, .pointer (some ⟨g9195, 0, none⟩)), (8, .pointer (some ⟨g9203, 0, none⟩)), (9, .int .i64 x13850), (10, .pointer (some ⟨g14846, 0, none⟩)), (11, .int .i64 y14849), (12, .int .i64 (IntKind.i64.wrap (Int.tmod ((l10.getD x13850.toNat zS65).f2) 16))), (13, .int .i32 x14854), (91, .int .u8 (Int.tmod ((l10.getD x13850.toNat zS65).f0) 5)), (103, .bool (true))] (by kernel_rfl) ?_
                        exact fun a ha => ⟨true, ha, (hS.re [6, 6, 6, 6, 6, 6, 6] [] rfl (sub_cons 0 rfl (sub_cons 0 rfl (sub_cons 0 rfl (sub_cons 3 rfl (sub_cons 4 rfl (sub_tail (sub_tail (sub_tail (sub_tail (sub_tail (sub_self)))))))))))), H⟩
                      · rw [if_neg h15057] at H
                        refine EW.seq (x := Cd9.r.r.r.r.r.r.l.r.l.l.r.l.l.r.r.r.r.l.r.l.l.r.r.l) (y := Cd9.r.r.r.r.r.r.l.r.l.l.r.l.l.r.r.r.r.l.r.l.l.r.r.r) (by kernel_rfl) ?_
                        refine EW.region (id := 23) (ops := Cd9.r.r.r.r.r.r.l.r.l.l.r.l.l.r.r.r.r.l.r.l.l.r.r.l.ops) (by kernel_rfl) ?_
                        refine EL.quick 2 [1, 7, 8, 9, 10, 11, 12, 13, 91, 103] [(1, .slice (some ad14845) l10.length C12), (7, .pointer (some ⟨g9195, 0, none⟩)), (8, .pointer (some ⟨g9203, 0, none⟩)), (9, .int .i64 x13850), (10, .pointer (some ⟨g14846, 0, none⟩)), (11, .int .i64 y14849), (12, .int .i64 (IntKind.i64.wrap (Int.tmod ((l10.getD x13850.toNat zS65).f2) 16))), (13, .int .i32 x14854), (91, .int .u8 (Int.tmod ((l10.getD x13850.toNat zS65).f0) 5)), (103, .bool (decide ((Int.tmod ((l10.getD x13850.toNat zS65).f0) 5) = 1)))] (by kernel_rfl) ?_
                        refine EL.done (by kernel_rfl) ?_
                        refine EQ.code ?_
                        refine EW.condP (o := (.tmp 103)) (x := Cd9.r.r.r.r.r.r.l.r.l.l.r.l.l.r.r.r.r.l.r.l.l.r.r.r.l) (y := Cd9.r.r.r.r.r.r.l.r.l.l.r.l.l.r.r.r.r.l.r.l.l.r.r.r.r) ((Int.tmod ((l10.getD x13850.toNat zS65).f0) 5) = 1) (by kernel_rfl) (by kernel_rfl) (fun h15058 => ?_) (fun h15058 => ?_)
                        · rw [if_pos h15058] at H
                          refine EW.keep [1, 7, 8, 9, 10, 11, 12, 13, 91, 103] [(1, .slice (some ad14845) l10.length C12), (7, .pointer (some ⟨g9195, 0, none⟩)), (8, .pointer (some ⟨g9203, 0, none⟩)), (9, .int .i64 x13850), (10, .pointer (some ⟨g14846, 0, none⟩)), (11, .int .i64 y14849), (12, .int .i64 (IntKind.i64.wrap (Int.tmod ((l10.getD x13850.toNat zS65).f2) 16))), (13, .int .i32 x14854), (91, .int .u8 (Int.tmod ((l10.getD x13850.toNat zS65).f0) 5)), (103, .bool (decide ((Int.tmod ((l10.getD x13850.toNat zS65).f0) 5) = 1)))] (by kernel_rfl) ?_
                          refine EW.as' [(1, .slice (some ad14845) l10.length C12), (7, .pointer (some ⟨g9195, 0, none⟩)), (8, .pointer (some ⟨g9203, 0, none⟩)), (9, .int .i64 x13850), (10, .pointer (some ⟨g14846, 0, none⟩)), (11, .int .i64 y14849), (12, .int .i64 (IntKind.i64.wrap (Int.tmod ((l10.getD x13850.toNat zS65).f2) 16))), (13, .int .i32 x14854), (91, .int .u8 (Int.tmod ((l10.getD x13850.toNat zS65).f0) 5)), (103, .bool (true))] (by simp only [dec_t h15058, Bool.not_true, Bool.not_false]) ?_
                          refine EW.skip (by kernel_rfl) ?_
                          refine EQ.to ?_
                          refine EQ.keep [1, 7, 8, 9, 10, 11, 12, 13, 91, 103] [(1, .slice (some ad14845) l10.length C12), (7, .pointer (some ⟨g9195, 0, none⟩)), (8, .pointer (some ⟨g9203, 0, none⟩)), (9, .int .i64 x13850), (10, .pointer (some ⟨g14846, 0, none⟩)), (11, .int .i64 y14849), (12, .int .i64 (IntKind.i64.wrap (Int.tmod ((l10.getD x13850.toNat zS65).f2) 16))), (13, .int .i32 x14854), (91, .int .u8 (Int.tmod ((l10.getD x13850.toNat zS65).f0) 5)), (103, .bool (true))] (by kernel_rfl) ?_
                          exact fun a ha => ⟨true, ha, (hS.re [6, 6, 6, 6, 6, 6, 6] [] rfl (sub_cons 0 rfl (sub_cons 0 rfl (sub_cons 0 rfl (sub_cons 3 rfl (sub_cons 4 rfl (sub_tail (sub_tail (sub_tail (sub_tail (sub_tail (sub_self)))))))))))), H⟩
                        · rw [if_neg h15058] at H
                          refine EW.region (id := 24) (ops := Cd9.r.r.r.r.r.r.l.r.l.l.r.l.l.r.r.r.r.l.r.l.l.r.r.r.r.ops) (by kernel_rfl) ?_
                          refine EL.quick 2 [1, 7, 8, 9, 10, 11, 12, 13, 91, 103] [(1, .slice (some ad14845) l10.length C12), (7, .pointer (some ⟨g9195, 0, none⟩)), (8, .pointer (some ⟨g9203, 0, none⟩)), (9, .int .i64 x13850), (10, .pointer (some ⟨g14846, 0, none⟩)), (11, .int .i64 y14849), (12, .int .i64 (IntKind.i64.wrap (Int.tmod ((l10.getD x13850.toNat zS65).f2) 16))), (13, .int .i32 x14854), (91, .int .u8 (Int.tmod ((l10.getD x13850.toNat zS65).f0) 5)), (103, .bool (decide ((Int.tmod ((l10.getD x13850.toNat zS65).f0) 5) = 2)))] (by kernel_rfl) ?_
                          refine EL.done (by kernel_rfl) ?_
                          refine EQ.to ?_
                          refine EQ.keep [1, 7, 8, 9, 10, 11, 12, 13, 91, 103] [(1, .slice (some ad14845) l10.length C12), (7, .pointer (some ⟨g9195, 0, none⟩)), (8, .pointer (some ⟨g9203, 0, none⟩)), (9, .int .i64 x13850), (10, .pointer (some ⟨g14846, 0, none⟩)), (11, .int .i64 y14849), (12, .int .i64 (IntKind.i64.wrap (Int.tmod ((l10.getD x13850.toNat zS65).f2) 16))), (13, .int .i32 x14854), (91, .int .u8 (Int.tmod ((l10.getD x13850.toNat zS65).f0) 5)), (103, .bool (decide ((Int.tmod ((l10.getD x13850.toNat zS65).f0) 5) = 2)))] (by kernel_rfl) ?_
                          exact fun a ha => ⟨decide ((Int.tmod ((l10.getD x13850.toNat zS65).f0) 5) = 2), ha, (hS.re [6, 6, 6, 6, 6, 6, 6] [] rfl (sub_cons 0 rfl (sub_cons 0 rfl (sub_cons 0 rfl (sub_cons 3 rfl (sub_cons 4 rfl (sub_tail (sub_tail (sub_tail (sub_tail (sub_tail (sub_self)))))))))))), H⟩
                    · obtain ⟨x15055, ha, hS, H⟩ := hI
                      rw [hj15056] at H
                      (try dsimp only at H)
                      refine EW.at ?_ a ha
                      clear ha a
                      refine EW.condP' (o := (.tmp 103)) (x := Cd9.r.r.r.r.r.r.l.r.l.l.r.l.l.r.r.r.r.l.r.l.r.l) (y := Cd9.r.r.r.r.r.r.l.r.l.l.r.l.l.r.r.r.r.l.r.l.r.r) (x15055) (by kernel_rfl) (by kernel_rfl) (fun h15059 => ?_) (fun h15059 => ?_)
                      · rw [if_pos h15059] at H
                        refine EW.seq (x := Cd9.r.r.r.r.r.r.l.r.l.l.r.l.l.r.r.r.r.l.r.l.r.l.l) (y := Cd9.r.r.r.r.r.r.l.r.l.l.r.l.l.r.r.r.r.l.r.l.r.l.r) (by kernel_rfl) ?_
                        refine EW.region (id := 25) (ops := Cd9.r.r.r.r.r.r.l.r.l.l.r.l.l.r.r.r.r.l.r.l.r.l.l.ops) (by kernel_rfl) ?_
                        refine EL.quick 4 [1, 7, 8, 9, 10, 11, 12, 108, 109, 110, 111] [(1, .slice (some ad14845) l10.length C12), (7, .pointer (some ⟨g9195, 0, none⟩)), (8, .pointer (some ⟨g9203, 0, none⟩)), (9, .int .i64 x13850), (10, .pointer (some ⟨g14846, 0, none⟩)), (11, .int .i64 y14849), (12, .int .i64 (IntKind.i64.wrap (Int.tmod ((l10.getD x13850.toNat zS65).f2) 16))), (108, .pointer (some ⟨g9195, 0, none⟩)), (109, .int .i64 y14849), (110, .int .i64 (IntKind.i64.wrap (Int.tmod ((l10.getD x13850.toNat zS65).f2) 16))), (111, .pointer (some ⟨g14846, 4, none⟩))] (by kernel_rfl) ?_
                        refine EL.of (EO.Y (YO.loadBox hS 0 rfl 21 4 1 (.int .i32 ((l10.getD x13850.toNat zS65).f4)) 112 (by kernel_rfl) (by kernel_rfl) (by kernel_rfl) (by kernel_rfl)) ?_)
                        have hS : St B _ (Ass.box 95 g9195 [.slice A13848 x13847.length C13849, .slice A9198 t9194.length C9199] :: Ass.deep 76 69 kS69 A13848 C13849 x13847 :: Ass.own 3 (Kd.int .i64) A9198 C9199 t9194 :: Ass.box 65 g14846 [.int .u8 ((l10.getD x13850.toNat zS65).f0), .int .u8 ((l10.getD x13850.toNat zS65).f1), .int .u8 ((l10.getD x13850.toNat zS65).f2), .int .u8 ((l10.getD x13850.toNat zS65).f3), .int .i32 ((l10.getD x13850.toNat zS65).f4), .int .i32 ((l10.getD x13850.toNat zS65).f5)] :: Ass.box 75 g9203 [.slice A9204 t9201.length C9205, .slice A13845 x13844.length C13846] :: Ass.own 3 (Kd.int .i64) A9204 C9205 t9201 :: Ass.deep 76 69 kS69 A13845 C13846 x13844 :: os) (Ro.sl (Kd.int .i64) A9048 C9049 x9047 :: Ro.sl (Kd.int .i64) A9048 C9049 x9047 :: Ro.sl (Kd.int .i64) A9048 C9049 x9047 :: Ro.sl (Kd.int .i64) A8 C9 l7 :: Ro.sl kS65 (some ad14845) C12 l10 :: rs) := hS.re [6, 6, 6] [] rfl sub_self
                        obtain ⟨t15066, t15067, t15068, hc15071, H⟩ := b3_out H
                        refine EL.of (EO.callD 36 [.pointer (some ⟨g9195, 0, none⟩), .int .i64 y14849, .int .i64 (IntKind.i64.wrap (Int.tmod ((l10.getD x13850.toNat zS65).f2) 16)), .int .i32 ((l10.getD x13850.toNat zS65).f4)] _ 113 (by kernel_rfl) (by kernel_rfl) (by kernel_rfl) (arena_Arena_Make.calls hc15071 hS) ?_)
                        rintro v w ⟨A15069, C15070, rfl, hS⟩
                        refine EL.quick 5 [1, 7, 8, 9, 10, 11, 12, 14, 15] [(1, .slice (some ad14845) l10.length C12), (7, .pointer (some ⟨g9195, 0, none⟩)), (8, .pointer (some ⟨g9203, 0, none⟩)), (9, .int .i64 x13850), (10, .pointer (some ⟨g14846, 0, none⟩)), (11, .int .i64 y14849), (12, .int .i64 (IntKind.i64.wrap (Int.tmod ((l10.getD x13850.toNat zS65).f2) 16))), (14, .int .i32 t15067), (15, .bool (t15068))] (by kernel_rfl) ?_
                        refine EL.done (by kernel_rfl) ?_
                        refine EQ.code ?_
                        refine EW.seq (x := Cd9.r.r.r.r.r.r.l.r.l.l.r.l.l.r.r.r.r.l.r.l.r.l.r.l) (y := Cd9.r.r.r.r.r.r.l.r.l.l.r.l.l.r.r.r.r.l.r.l.r.l.r.r) (by kernel_rfl) ?_
                        refine EW.region (id := 26) (ops := Cd9.r.r.r.r.r.r.l.r.l.l.r.l.l.r.r.r.r.l.r.l.r.l.r.l.ops) (by kernel_rfl) ?_
                        refine EL.quick 4 [1, 7, 8, 9, 11, 14, 15, 117, 118, 119, 120] [(1, .slice (some ad14845) l10.length C12), (7, .pointer (some ⟨g9195, 0, none⟩)), (8, .pointer (some ⟨g9203, 0, none⟩)), (9, .int .i64 x13850), (11, .int .i64 y14849), (14, .int .i32 t15067), (15, .bool (t15068)), (117, .pointer (some ⟨g9203, 0, none⟩)), (118, .int .i64 y14849), (119, .int .i64 (IntKind.i64.wrap (Int.tmod ((l10.getD x13850.toNat zS65).f2) 16))), (120, .pointer (some ⟨g14846, 4, none⟩))] (by kernel_rfl) ?_
                        refine EL.of (EO.Y (YO.loadBox hS 3 rfl 21 4 1 (.int .i32 ((l10.getD x13850.toNat zS65).f4)) 121 (by kernel_rfl) (by kernel_rfl) (by kernel_rfl) (by kernel_rfl)) ?_)
                        have hS : St B _ (Ass.box 75 g9203 [.slice A9204 t9201.length C9205, .slice A13845 x13844.length C13846] :: Ass.own 3 (Kd.int .i64) A9204 C9205 t9201 :: Ass.deep 76 69 kS69 A13845 C13846 x13844 :: Ass.box 95 g9195 [.slice A15069 t15066.length C15070, .slice A9198 t9194.length C9199] :: Ass.deep 76 69 kS69 A15069 C15070 t15066 :: Ass.own 3 (Kd.int .i64) A9198 C9199 t9194 :: Ass.box 65 g14846 [.int .u8 ((l10.getD x13850.toNat zS65).f0), .int .u8 ((l10.getD x13850.toNat zS65).f1), .int .u8 ((l10.getD x13850.toNat zS65).f2), .int .u8 ((l10.getD x13850.toNat zS65).f3), .int .i32 ((l10.getD x13850.toNat zS65).f4), .int .i32 ((l10.getD x13850.toNat zS65).f5)] :: os) (Ro.sl (Kd.int .i64) A9048 C9049 x9047 :: Ro.sl (Kd.int .i64) A9048 C9049 x9047 :: Ro.sl (Kd.int .i64) A9048 C9049 x9047 :: Ro.sl (Kd.int .i64) A8 C9 l7 :: Ro.sl kS65 (some ad14845) C12 l10 :: rs) := hS.re [6, 6, 6] [] rfl sub_self
                        obtain ⟨t15078, t15079, t15080, hc15083, H⟩ := b3_out H
                        refine EL.of (EO.callD 37 [.pointer (some ⟨g9203, 0, none⟩), .int .i64 y14849, .int .i64 (IntKind.i64.wrap (Int.tmod ((l10.getD x13850.toNat zS65).f2) 16)), .int .i32 ((l10.getD x13850.toNat zS65).f4)] _ 122 (by kernel_rfl) (by kernel_rfl) (by kernel_rfl) (confidantref12_Arena_Make.calls hc15083 hS) ?_)
                        rintro v w ⟨A15081, C15082, rfl, hS⟩
                        refine EL.quick 5 [1, 7, 8, 9, 11, 14, 15, 16, 17] [(1, .slice (some ad14845) l10.length C12), (7, .pointer (some ⟨g9195, 0, none⟩)), (8, .pointer (some ⟨g9203, 0, none⟩)), (9, .int .i64 x13850), (11, .int .i64 y14849), (14, .int .i32 t15067), (15, .bool (t15068)), (16, .int .i32 t15079), (17, .bool (t15080))] (by kernel_rfl) ?_
                        refine EL.done (by kernel_rfl) ?_
                        refine EQ.code ?_
                        obtain ⟨j15088, hj15088, H⟩ := lt_out H
                        refine EW.cut (x := Cd9.r.r.r.r.r.r.l.r.l.l.r.l.l.r.r.r.r.l.r.l.r.l.r.r.l) (y := Cd9.r.r.r.r.r.r.l.r.l.l.r.l.l.r.r.r.r.l.r.l.r.l.r.r.r) (fun a w => ∃ x15087 : Bool, Sat 214 [(1, .slice (some ad14845) l10.length C12), (7, .pointer (some ⟨g9195, 0, none⟩)), (8, .pointer (some ⟨g9203, 0, none⟩)), (9, .int .i64 x13850), (11, .int .i64 y14849), (132, .bool (x15087))] a ∧ St B w (Ass.box 75 g9203 [.slice A9204 t9201.length C9205, .slice A15081 t15078.length C15082] :: Ass.own 3 (Kd.int .i64) A9204 C9205 t9201 :: Ass.deep 76 69 kS69 A15081 C15082 t15078 :: Ass.box 95 g9195 [.slice A15069 t15066.length C15070, .slice A9198 t9194.length C9199] :: Ass.deep 76 69 kS69 A15069 C15070 t15066 :: Ass.own 3 (Kd.int .i64) A9198 C9199 t9194 :: Ass.box 65 g14846 [.int .u8 ((l10.getD x13850.toNat zS65).f0), .int .u8 ((l10.getD x13850.toNat zS65).f1), .int .u8 ((l10.getD x13850.toNat zS65).f2), .int .u8 ((l10.getD x13850.toNat zS65).f3), .int .i32 ((l10.getD x13850.toNat zS65).f4), .int .i32 ((l10.getD x13850.toNat zS65).f5)] :: os) (Ro.sl (Kd.int .i64) A9048 C9049 x9047 :: Ro.sl (Kd.int .i64) A9048 C9049 x9047 :: Ro.sl (Kd.int .i64) A9048 C9049 x9047 :: Ro.sl (Kd.int .i64) A8 C9 l7 :: Ro.sl kS65 (some ad14845) C12 l10 :: rs) ∧ j15088 x15087 = some x8769) (by kernel_rfl) ?_ (fun a w hI => ?_)
                        · refine EW.region (id := 27) (ops := Cd9.r.r.r.r.r.r.l.r.l.l.r.l.l.r.r.r.r.l.r.l.r.l.r.r.l.ops) (by kernel_rfl) ?_
                          refine EL.quick 4 [1, 7, 8, 9, 11, 15, 17, 128] [(1, .slice (some ad14845) l10.length C12), (7, .pointer (some ⟨g9195, 0, none⟩)), (8, .pointer (some ⟨g9203, 0, none⟩)), (9, .int .i64 x13850), (11, .int .i64 y14849), (15, .bool (t15068)), (17, .bool (t15080)), (128, .bool (!(decide (t15067 = t15079))))] (by kernel_rfl) ?_
                          by_cases h15089 : t15067 = t15079
                          · rw [if_pos h15089] at H
                            refine EL.keep [1, 7, 8, 9, 11, 15, 17, 128] [(1, .slice (some ad14845) l10.length C12), (7, .pointer (some ⟨g9195, 0, none⟩)), (8, .pointer (some ⟨g9203, 0, none⟩)), (9, .int .i64 x13850), (11, .int .i64 y14849), (15, .bool (t15068)), (17, .bool (t15080)), (128, .bool (!(decide (t15067 = t15079))))] (by kernel_rfl) ?_
                            refine EL.as' [(1, .slice (some ad14845) l10.length C12), (7, .pointer (some ⟨g9195, 0, none⟩)), (8, .pointer (some ⟨g9203, 0, none⟩)), (9, .int .i64 x13850), (11, .int .i64 y14849), (15, .bool (t15068)), (17, .bool (t15080)), (128, .bool (false))] (by simp only [dec_t h15089, Bool.not_true, Bool.not_false]) ?_
                            refine EL.quick 4 [1, 7, 8, 9, 11, 129, 130, 131, 132] [(1, .slice (some ad14845) l10.length C12), (7, .pointer (some ⟨g9195, 0, none⟩)), (8, .pointer (some ⟨g9203, 0, none⟩)), (9, .int .i64 x13850), (11, .int .i64 y14849), (129, .bool (t15068)), (130, .bool (t15080)), (131, .bool (!((t15068 == t15080)))), (132, .bool (!((t15068 == t15080))))] (by kernel_rfl) ?_
                            refine EL.done (by kernel_rfl) ?_
                            refine EQ.to ?_
                            refine EQ.keep [1, 7, 8, 9, 11, 132] [(1, .slice (some ad14845) l10.length C12), (7, .pointer (some ⟨g9195, 0, none⟩)), (8, .pointer (some ⟨g9203, 0, none⟩)), (9, .int .i64 x13850), (11, .int .i64 y14849), (132, .bool (!((t15068 == t15080))))] (by kernel_rfl) ?_
                            exact fun a ha => ⟨!((t15068 == t15080)), ha, (hS.re [6, 6, 6, 6, 6, 6, 6] [] rfl (sub_cons 0 rfl (sub_cons 0 rfl (sub_cons 0 rfl (sub_cons 3 rfl (sub_cons 4 rfl (sub_tail (sub_tail (sub_tail (sub_tail (sub_tail (sub_self)))))))))))), H⟩
                          · rw [if_neg h15089] at H
                            refine EL.keep [1, 7, 8, 9, 11, 15, 17, 128] [(1, .slice (some ad14845) l10.length C12), (7, .pointer (some ⟨g9195, 0, none⟩)), (8, .pointer (some ⟨g9203, 0, none⟩)), (9, .int .i64 x13850), (11, .int .i64 y14849), (15, .bool (t15068)), (17, .bool (t15080)), (128, .bool (!(decide (t15067 = t15079))))] (by kernel_rfl) ?_
                            refine EL.as' [(1, .slice (some ad14845) l10.length C12), (7, .pointer (some ⟨g9195, 0, none⟩)), (8, .pointer (some ⟨g9203, 0, none⟩)), (9, .int .i64 x13850), (11, .int .i64 y14849), (15, .bool (t15068)), (17, .bool (t15080)), (128, .bool (true))] (by simp only [dec_f h15089, Bool.not_true, Bool.not_false]) ?_
                            refine EL.quick 4 [1, 7, 8, 9, 11, 132] [(1, .slice (some ad14845) l10.length C12), (7, .pointer (some ⟨g9195, 0, none⟩)), (8, .pointer (some ⟨g9203, 0, none⟩)), (9, .int .i64 x13850), (11, .int .i64 y14849), (132, .bool (true))] (by kernel_rfl) ?_
                            refine EL.done (by kernel_rfl) ?_
                            refine EQ.to ?_
                            refine EQ.keep [1, 7, 8, 9, 11, 132] [(1, .slice (some ad14845) l10.length C12), (7, .pointer (some ⟨g9195, 0, none⟩)), (8, .pointer (some ⟨g9203, 0, none⟩)), (9, .int .i64 x13850), (11, .int .i64 y14849), (132, .bool (true))] (by kernel_rfl) ?_
                            exact fun a ha => ⟨true, ha, (hS.re [6, 6, 6, 6, 6, 6, 6] [] rfl (sub_cons 0 rfl (sub_cons 0 rfl (sub_cons 0 rfl (sub_cons 3 rfl (sub_cons 4 rfl (sub_tail (sub_tail (sub_tail (sub_tail (sub_tail (sub_self)))))))))))), H⟩
                        · obtain ⟨x15087, ha, hS, H⟩ := hI
                          rw [hj15088] at H
                          (try dsimp only at H)
                          refine EW.at ?_ a ha
                          clear ha a
                          refine EW.condP' (o := (.tmp 132)) (x := Cd9.r.r.r.r.r.r.l.r.l.l.r.l.l.r.r.r.r.l.r.l.r.l.r.r.r.l) (y := Cd9.r.r.r.r.r.r.l.r.l.l.r.l.l.r.r.r.r.l.r.l.r.l.r.r.r.r) (x15087) (by kernel_rfl) (by kernel_rfl) (fun h15090 => ?_) (fun h15090 => ?_)
                          · rw [if_pos h15090] at H
                            refine EW.seq (x := Cd9.r.r.r.r.r.r.l.r.l.l.r.l.l.r.r.r.r.l.r.l.r.l.r.r.r.l.l) (y := Cd9.r.r.r.r.r.r.l.r.l.l.r.l.l.r.r.r.r.l.r.l.r.l.r.r.r.l.r) (by kernel_rfl) ?_
                            refine EW.region (id := 28) (ops := Cd9.r.r.r.r.r.r.l.r.l.l.r.l.l.r.r.r.r.l.r.l.r.l.r.r.r.l.l.ops) (by kernel_rfl) ?_
                            refine EL.quick 1 [4] [(4, .bool (false))] (by kernel_rfl) ?_
                            refine EL.done (by kernel_rfl) ?_
                            refine EQ.code ?_
                            refine EW.ret (by kernel_rfl) ?_
                            refine EQ.ret ?_
                            refine EQ.ret ?_
                            refine EQ.ret ?_
                            refine EQ.ret ?_
                            refine EQ.ret ?_
                            refine EQ.ret ?_
                            refine EQ.ret ?_
                            obtain rfl := Option.some.inj H
                            exact EQ.leave (.bool (false)) (by kernel_rfl) ⟨_, rfl, rfl, (hS.re [] [0, 0, 0, 0, 0, 0, 0] rfl (sub_tail (sub_tail (sub_tail (sub_self)))))⟩
                          · rw [if_neg h15090] at H
                            refine EW.skip (by kernel_rfl) ?_
                            refine EQ.pop ?_
                            refine EQ.to ?_
                            refine EQ.keep [1, 7, 8, 9, 11] [(1, .slice (some ad14845) l10.length C12), (7, .pointer (some ⟨g9195, 0, none⟩)), (8, .pointer (some ⟨g9203, 0, none⟩)), (9, .int .i64 x13850), (11, .int .i64 y14849)] (by kernel_rfl) ?_
                            exact fun a ha => ⟨t15078, t15066, A15081, C15082, A15069, C15070, ha, (hS.re [6, 6, 6, 6, 6, 6, 6] [] rfl (sub_cons 0 rfl (sub_cons 0 rfl (sub_cons 0 rfl (sub_cons 3 rfl (sub_cons 4 rfl (sub_tail (sub_tail (sub_tail (sub_tail (sub_tail (sub_self)))))))))))), H⟩
                      · rw [if_neg h15059] at H
                        refine EW.seq (x := Cd9.r.r.r.r.r.r.l.r.l.l.r.l.l.r.r.r.r.l.r.l.r.r.l) (y := Cd9.r.r.r.r.r.r.l.r.l.l.r.l.l.r.r.r.r.l.r.l.r.r.r) (by kernel_rfl) ?_
                        refine EW.region (id := 29) (ops := Cd9.r.r.r.r.r.r.l.r.l.l.r.l.l.r.r.r.r.l.r.l.r.r.l.ops) (by kernel_rfl) ?_
                        refine EL.quick 2 [1, 7, 8, 9, 10, 11, 13, 133] [(1, .slice (some ad14845) l10.length C12), (7, .pointer (some ⟨g9195, 0, none⟩)), (8, .pointer (some ⟨g9203, 0, none⟩)), (9, .int .i64 x13850), (10, .pointer (some ⟨g14846, 0, none⟩)), (11, .int .i64 y14849), (13, .int .i32 x14854), (133, .bool (decide ((Int.tmod ((l10.getD x13850.toNat zS65).f0) 5) = 3)))] (by kernel_rfl) ?_
                        refine EL.done (by kernel_rfl) ?_
                        refine EQ.code ?_
                        refine EW.condP (o := (.tmp 133)) (x := Cd9.r.r.r.r.r.r.l.r.l.l.r.l.l.r.r.r.r.l.r.l.r.r.r.l) (y := Cd9.r.r.r.r.r.r.l.r.l.l.r.l.l.r.r.r.r.l.r.l.r.r.r.r) ((Int.tmod ((l10.getD x13850.toNat zS65).f0) 5) = 3) (by kernel_rfl) (by kernel_rfl) (fun h15091 => ?_) (fun h15091 => ?_)
                        · rw [if_pos h15091] at H
                          refine EW.seq (x := Cd9.r.r.r.r.r.r.l.r.l.l.r.l.l.r.r.r.r.l.r.l.r.r.r.l.l) (y := Cd9.r.r.r.r.r.r.l.r.l.l.r.l.l.r.r.r.r.l.r.l.r.r.r.l.r) (by kernel_rfl) ?_
                          refine EW.region (id := 30) (ops := Cd9.r.r.r.r.r.r.l.r.l.l.r.l.l.r.r.r.r.l.r.l.r.r.r.l.l.ops) (by kernel_rfl) ?_
                          refine EL.quick 2 [1, 7, 8, 9, 11, 13, 136, 137] [(1, .slice (some ad14845) l10.length C12), (7, .pointer (some ⟨g9195, 0, none⟩)), (8, .pointer (some ⟨g9203, 0, none⟩)), (9, .int .i64 x13850), (11, .int .i64 y14849), (13, .int .i32 x14854), (136, .pointer (some ⟨g9195, 0, none⟩)), (137, .int .i32 x14854)] (by kernel_rfl) ?_
                          have hS : St B _ (Ass.box 95 g9195 [.slice A13848 x13847.length C13849, .slice A9198 t9194.length C9199] :: Ass.deep 76 69 kS69 A13848 C13849 x13847 :: Ass.own 3 (Kd.int .i64) A9198 C9199 t9194 :: Ass.box 65 g14846 [.int .u8 ((l10.getD x13850.toNat zS65).f0), .int .u8 ((l10.getD x13850.toNat zS65).f1), .int .u8 ((l10.getD x13850.toNat zS65).f2), .int .u8 ((l10.getD x13850.toNat zS65).f3), .int .i32 ((l10.getD x13850.toNat zS65).f4), .int .i32 ((l10.getD x13850.toNat zS65).f5)] :: Ass.box 75 g9203 [.slice A9204 t9201.length C9205, .slice A13845 x13844.length C13846] :: Ass.own 3 (Kd.int .i64) A9204 C9205 t9201 :: Ass.deep 76 69 kS69 A13845 C13846 x13844 :: os) (Ro.sl (Kd.int .i64) A9048 C9049 x9047 :: Ro.sl (Kd.int .i64) A9048 C9049 x9047 :: Ro.sl (Kd.int .i64) A9048 C9049 x9047 :: Ro.sl (Kd.int .i64) A8 C9 l7 :: Ro.sl kS65 (some ad14845) C12 l10 :: rs) := hS.re [6, 6, 6] [] rfl sub_self
                          obtain ⟨t15097, t15098, t15099, hc15100, H⟩ := b3_out H
                          refine EL.of (EO.callD 38 [.pointer (some ⟨g9195, 0, none⟩), .int .i32 x14854] _ 138 (by kernel_rfl) (by kernel_rfl) (by kernel_rfl) (arena_Arena_Get.calls hc15100 hS) ?_)
                          rintro v w ⟨rfl, hS⟩
                          refine EL.quick 3 [1, 7, 8, 9, 11, 13, 139, 140] [(1, .slice (some ad14845) l10.length C12), (7, .pointer (some ⟨g9195, 0, none⟩)), (8, .pointer (some ⟨g9203, 0, none⟩)), (9, .int .i64 x13850), (11, .int .i64 y14849), (13, .int .i32 x14854), (139, .agg #[.int .i64 t15097, .int .i32 t15098]), (140, .bool (t15099))] (by kernel_rfl) ?_
                          refine EL.of (EO.alloc hS 69 (.agg #[.int .i64 0, .int .i32 0]) [.int .i64 0, .int .i32 0] 18 (by kernel_rfl) (by kernel_rfl) (by kernel_rfl) (by kernel_rfl) (by first | rfl | kernel_rfl) ?_)
                          intro g15101 w hS
                          refine EL.of (EO.storeBox (os' := Ass.box 69 g15101 [.int .i64 t15097, .int .i32 t15098] :: Ass.box 95 g9195 [.slice A13848 x13847.length C13849, .slice A9198 t9194.length C9199] :: Ass.deep 76 69 kS69 A13848 C13849 x13847 :: Ass.own 3 (Kd.int .i64) A9198 C9199 t9194 :: Ass.box 65 g14846 [.int .u8 ((l10.getD x13850.toNat zS65).f0), .int .u8 ((l10.getD x13850.toNat zS65).f1), .int .u8 ((l10.getD x13850.toNat zS65).f2), .int .u8 ((l10.getD x13850.toNat zS65).f3), .int .i32 ((l10.getD x13850.toNat zS65).f4), .int .i32 ((l10.getD x13850.toNat zS65).f5)] :: Ass.box 75 g9203 [.slice A9204 t9201.length C9205, .slice A13845 x13844.length C13846] :: Ass.own 3 (Kd.int .i64) A9204 C9205 t9201 :: Ass.deep 76 69 kS69 A13845 C13846 x13844 :: os) hS 0 rfl 69 0 (.agg #[.int .i64 t15097, .int .i32 t15098]) [.int .i64 t15097, .int .i32 t15098] (by kernel_rfl) (by kernel_rfl) (by kernel_rfl) (by kernel_rfl) (by kernel_rfl) (by kernel_rfl) rfl rfl ?_)
                          intro w hS
                          refine EL.quick 1 [1, 7, 8, 9, 11, 13, 18, 19] [(1, .slice (some ad14845) l10.length C12), (7, .pointer (some ⟨g9195, 0, none⟩)), (8, .pointer (some ⟨g9203, 0, none⟩)), (9, .int .i64 x13850), (11, .int .i64 y14849), (13, .int .i32 x14854), (18, .pointer (some ⟨g15101, 0, none⟩)), (19, .bool (t15099))] (by kernel_rfl) ?_
                          refine EL.done (by kernel_rfl) ?_
                          refine EQ.code ?_
                          refine EW.seq (x := Cd9.r.r.r.r.r.r.l.r.l.l.r.l.l.r.r.r.r.l.r.l.r.r.r.l.r.l) (y := Cd9.r.r.r.r.r.r.l.r.l.l.r.l.l.r.r.r.r.l.r.l.r.r.r.l.r.r) (by kernel_rfl) ?_
                          refine EW.region (id := 31) (ops := Cd9.r.r.r.r.r.r.l.r.l.l.r.l.l.r.r.r.r.l.r.l.r.r.r.l.r.l.ops) (by kernel_rfl) ?_
                          refine EL.quick 2 [1, 7, 8, 9, 11, 18, 19, 142, 143] [(1, .slice (some ad14845) l10.length C12), (7, .pointer (some ⟨g9195, 0, none⟩)), (8, .pointer (some ⟨g9203, 0, none⟩)), (9, .int .i64 x13850), (11, .int .i64 y14849), (18, .pointer (some ⟨g15101, 0, none⟩)), (19, .bool (t15099)), (142, .pointer (some ⟨g9203, 0, none⟩)), (143, .int .i32 x14854)] (by kernel_rfl) ?_
                          have hS : St B _ (Ass.box 75 g9203 [.slice A9204 t9201.length C9205, .slice A13845 x13844.length C13846] :: Ass.own 3 (Kd.int .i64) A9204 C9205 t9201 :: Ass.deep 76 69 kS69 A13845 C13846 x13844 :: Ass.box 69 g15101 [.int .i64 t15097, .int .i32 t15098] :: Ass.box 95 g9195 [.slice A13848 x13847.length C13849, .slice A9198 t9194.length C9199] :: Ass.deep 76 69 kS69 A13848 C13849 x13847 :: Ass.own 3 (Kd.int .i64) A9198 C9199 t9194 :: Ass.box 65 g14846 [.int .u8 ((l10.getD x13850.toNat zS65).f0), .int .u8 ((l10.getD x13850.toNat zS65).f1), .int .u8 ((l10.getD x13850.toNat zS65).f2), .int .u8 ((l10.getD x13850.toNat zS65).f3), .int .i32 ((l10.getD x13850.toNat zS65).f4), .int .i32 ((l10.getD x13850.toNat zS65).f5)] :: os) (Ro.sl (Kd.int .i64) A9048 C9049 x9047 :: Ro.sl (Kd.int .i64) A9048 C9049 x9047 :: Ro.sl (Kd.int .i64) A9048 C9049 x9047 :: Ro.sl (Kd.int .i64) A8 C9 l7 :: Ro.sl kS65 (some ad14845) C12 l10 :: rs) := hS.re [7, 7, 7] [] rfl sub_self
                          obtain ⟨t15107, t15108, t15109, hc15110, H⟩ := b3_out H
                          refine EL.of (EO.callD 39 [.pointer (some ⟨g9203, 0, none⟩), .int .i32 x14854] _ 144 (by kernel_rfl) (by kernel_rfl) (by kernel_rfl) (confidantref12_Arena_Get.calls hc15110 hS) ?_)
                          rintro v w ⟨rfl, hS⟩
                          refine EL.quick 3 [1, 7, 8, 9, 11, 18, 19, 145, 146] [(1, .slice (some ad14845) l10.length C12), (7, .pointer (some ⟨g9195, 0, none⟩)), (8, .pointer (some ⟨g9203, 0, none⟩)), (9, .int .i64 x13850), (11, .int .i64 y14849), (18, .pointer (some ⟨g15101, 0, none⟩)), (19, .bool (t15099)), (145, .agg #[.int .i64 t15107, .int .i32 t15108]), (146, .bool (t15109))] (by kernel_rfl) ?_
                          refine EL.of (EO.alloc hS 69 (.agg #[.int .i64 0, .int .i32 0]) [.int .i64 0, .int .i32 0] 20 (by kernel_rfl) (by kernel_rfl) (by kernel_rfl) (by kernel_rfl) (by first | rfl | kernel_rfl) ?_)
                          intro g15111 w hS
                          refine EL.of (EO.storeBox (os' := Ass.box 69 g15111 [.int .i64 t15107, .int .i32 t15108] :: Ass.box 75 g9203 [.slice A9204 t9201.length C9205, .slice A13845 x13844.length C13846] :: Ass.own 3 (Kd.int .i64) A9204 C9205 t9201 :: Ass.deep 76 69 kS69 A13845 C13846 x13844 :: Ass.box 69 g15101 [.int .i64 t15097, .int .i32 t15098] :: Ass.box 95 g9195 [.slice A13848 x13847.length C13849, .slice A9198 t9194.length C9199] :: Ass.deep 76 69 kS69 A13848 C13849 x13847 :: Ass.own 3 (Kd.int .i64) A9198 C9199 t9194 :: Ass.box 65 g14846 [.int .u8 ((l10.getD x13850.toNat zS65).f0), .int .u8 ((l10.getD x13850.toNat zS65).f1), .int .u8 ((l10.getD x13850.toNat zS65).f2), .int .u8 ((l10.getD x13850.toNat zS65).f3), .int .i32 ((l10.getD x13850.toNat zS65).f4), .int .i32 ((l10.getD x13850.toNat zS65).f5)] :: os) hS 0 rfl 69 0 (.agg #[.int .i64 t15107, .int .i32 t15108]) [.int .i64 t15107, .int .i32 t15108] (by kernel_rfl) (by kernel_rfl) (by kernel_rfl) (by kernel_rfl) (by kernel_rfl) (by kernel_rfl) rfl rfl ?_)
                          intro w hS
                          refine EL.quick 1 [1, 7, 8, 9, 11, 18, 19, 20, 21] [(1, .slice (some ad14845) l10.length C12), (7, .pointer (some ⟨g9195, 0, none⟩)), (8, .pointer (some ⟨g9203, 0, none⟩)), (9, .int .i64 x13850), (11, .int .i64 y14849), (18, .pointer (some ⟨g15101, 0, none⟩)), (19, .bool (t15099)), (20, .pointer (some ⟨g15111, 0, none⟩)), (21, .bool (t15109))] (by kernel_rfl) ?_
                          refine EL.done (by kernel_rfl) ?_
                          refine EQ.code ?_
                          obtain ⟨j15116, hj15116, H⟩ := lt_out H
                          refine EW.cut (x := Cd9.r.r.r.r.r.r.l.r.l.l.r.l.l.r.r.r.r.l.r.l.r.r.r.l.r.r.l) (y := Cd9.r.r.r.r.r.r.l.r.l.l.r.l.l.r.r.r.r.l.r.l.r.r.r.l.r.r.r) (fun a w => ∃ x15115 : Bool, Sat 214 [(1, .slice (some ad14845) l10.length C12), (7, .pointer (some ⟨g9195, 0, none⟩)), (8, .pointer (some ⟨g9203, 0, none⟩)), (9, .int .i64 x13850), (11, .int .i64 y14849), (154, .bool (x15115))] a ∧ St B w (Ass.box 69 g15111 [.int .i64 t15107, .int .i32 t15108] :: Ass.box 75 g9203 [.slice A9204 t9201.length C9205, .slice A13845 x13844.length C13846] :: Ass.own 3 (Kd.int .i64) A9204 C9205 t9201 :: Ass.deep 76 69 kS69 A13845 C13846 x13844 :: Ass.box 69 g15101 [.int .i64 t15097, .int .i32 t15098] :: Ass.box 95 g9195 [.slice A13848 x13847.length C13849, .slice A9198 t9194.length C9199] :: Ass.deep 76 69 kS69 A13848 C13849 x13847 :: Ass.own 3 (Kd.int .i64) A9198 C9199 t9194 :: Ass.box 65 g14846 [.int .u8 ((l10.getD x13850.toNat zS65).f0), .int .u8 ((l10.getD x13850.toNat zS65).f1), .int .u8 ((l10.getD x13850.toNat zS65).f2), .int .u8 ((l10.getD x13850.toNat zS65).f3), .int .i32 ((l10.getD x13850.toNat zS65).f4), .int .i32 ((l10.getD x13850.toNat zS65).f5)] :: os) (Ro.sl (Kd.int .i64) A9048 C9049 x9047 :: Ro.sl (Kd.int .i64) A9048 C9049 x9047 :: Ro.sl (Kd.int .i64) A9048 C9049 x9047 :: Ro.sl (Kd.int .i64) A8 C9 l7 :: Ro.sl kS65 (some ad14845) C12 l10 :: rs) ∧ j15116 x15115 = some x8769) (by kernel_rfl) ?_ (fun a w hI => ?_)
                          · refine EW.region (id := 32) (ops := Cd9.r.r.r.r.r.r.l.r.l.l.r.l.l.r.r.r.r.l.r.l.r.r.r.l.r.r.l.ops) (by kernel_rfl) ?_
                            refine EL.of (EO.Y (YO.loadBox hS 4 rfl 69 0 2 (.agg #[.int .i64 t15097, .int .i32 t15098]) 147 (by kernel_rfl) (by kernel_rfl) (by kernel_rfl) (by kernel_rfl)) ?_)
                            refine EL.of (EO.Y (YO.loadBox hS 0 rfl 69 0 2 (.agg #[.int .i64 t15107, .int .i32 t15108]) 148 (by kernel_rfl) (by kernel_rfl) (by kernel_rfl) (by kernel_rfl)) ?_)
                            refine EL.of (EO.Y (YO.eqAg .neq 69 (.tmp 147) (.tmp 148) #[.int .i64 t15097, .int .i32 t15098] #[.int .i64 t15107, .int .i32 t15108] ((t15097 == t15107) && ((t15098 == t15108) && true)) (!(((t15097 == t15107) && ((t15098 == t15108) && true)))) 149 (by kernel_rfl) (by kernel_rfl) (by kernel_rfl) (by kernel_rfl) (by kernel_rfl) (.inr ⟨rfl, rfl⟩)) ?_)
                            refine EL.quick 1 [1, 7, 8, 9, 11, 19, 21, 150] [(1, .slice (some ad14845) l10.length C12), (7, .pointer (some ⟨g9195, 0, none⟩)), (8, .pointer (some ⟨g9203, 0, none⟩)), (9, .int .i64 x13850), (11, .int .i64 y14849), (19, .bool (t15099)), (21, .bool (t15109)), (150, .bool (!(((t15097 == t15107) && ((t15098 == t15108) && true)))))] (by kernel_rfl) ?_
                            by_cases h15117 : ((t15097 == t15107) && ((t15098 == t15108) && true)) = true
                            · rw [if_pos h15117] at H
                              refine EL.keep [1, 7, 8, 9, 11, 19, 21, 150] [(1, .slice (some ad14845) l10.length C12), (7, .pointer (some ⟨g9195, 0, none⟩)), (8, .pointer (some ⟨g9203, 0, none⟩)), (9, .int .i64 x13850), (11, .int .i64 y14849), (19, .bool (t15099)), (21, .bool (t15109)), (150, .bool (!(((t15097 == t15107) && ((t15098 == t15108) && true)))))] (by kernel_rfl) ?_
                              refine EL.as' [(1, .slice (some ad14845) l10.length C12), (7, .pointer (some ⟨g9195, 0, none⟩)), (8, .pointer (some ⟨g9203, 0, none⟩)), (9, .int .i64 x13850), (11, .int .i64 y14849), (19, .bool (t15099)), (21, .bool (t15109)), (150, .bool (false))] (by simp only [h15117, Bool.not_true, Bool.not_false]) ?_
                              refine EL.quick 4 [1, 7, 8, 9, 11, 151, 152, 153, 154] [(1, .slice (some ad14845) l10.length C12), (7, .pointer (some ⟨g9195, 0, none⟩)), (8, .pointer (some ⟨g9203, 0, none⟩)), (9, .int .i64 x13850), (11, .int .i64 y14849), (151, .bool (t15099)), (152, .bool (t15109)), (153, .bool (!((t15099 == t15109)))), (154, .bool (!((t15099 == t15109))))] (by kernel_rfl) ?_
                              refine EL.done (by kernel_rfl) ?_
                              refine EQ.to ?_
                              refine EQ.keep [1, 7, 8, 9, 11, 154] [(1, .slice (some ad14845) l10.length C12), (7, .pointer (some ⟨g9195, 0, none⟩)), (8, .pointer (some ⟨g9203, 0, none⟩)), (9, .int .i64 x13850), (11, .int .i64 y14849), (154, .bool (!((t15099 == t15109))))] (by kernel_rfl) ?_
                              exact fun a ha => ⟨!((t15099 == t15109)), ha, (hS.re [8, 8, 8, 8, 8, 8, 8, 8, 8] [] rfl (sub_cons 0 rfl (sub_cons 0 rfl (sub_cons 0 rfl (sub_cons 3 rfl (sub_cons 4 rfl (sub_tail (sub_tail (sub_tail (sub_tail (sub_tail (sub_self)))))))))))), H⟩
                            · rw [if_neg h15117] at H
                              refine EL.keep [1, 7, 8, 9, 11, 19, 21, 150] [(1, .slice (some ad14845) l10.length C12), (7, .pointer (some ⟨g9195, 0, none⟩)), (8, .pointer (some ⟨g9203, 0, none⟩)), (9, .int .i64 x13850), (11, .int .i64 y14849), (19, .bool (t15099)), (21, .bool (t15109)), (150, .bool (!(((t15097 == t15107) && ((t15098 == t15108) && true)))))] (by kernel_rfl) ?_
                              refine EL.as' [(1, .slice (some ad14845) l10.length C12), (7, .pointer (some ⟨g9195, 0, none⟩)), (8, .pointer (some ⟨g9203, 0, none⟩)), (9, .int .i64 x13850), (11, .int .i64 y14849), (19, .bool (t15099)), (21, .bool (t15109)), (150, .bool (true))] (by simp only [(Bool.eq_false_iff.2 h15117), Bool.not_true, Bool.not_false]) ?_
                              refine EL.quick 4 [1, 7, 8, 9, 11, 154] [(1, .slice (some ad14845) l10.length C12), (7, .pointer (some ⟨g9195, 0, none⟩)), (8, .pointer (some ⟨g9203, 0, none⟩)), (9, .int .i64 x13850), (11, .int .i64 y14849), (154, .bool (true))] (by kernel_rfl) ?_
                              refine EL.done (by kernel_rfl) ?_
                              refine EQ.to ?_
                              refine EQ.keep [1, 7, 8, 9, 11, 154] [(1, .slice (some ad14845) l10.length C12), (7, .pointer (some ⟨g9195, 0, none⟩)), (8, .pointer (some ⟨g9203, 0, none⟩)), (9, .int .i64 x13850), (11, .int .i64 y14849), (154, .bool (true))] (by kernel_rfl) ?_
                              exact fun a ha => ⟨true, ha, (hS.re [8, 8, 8, 8, 8, 8, 8, 8, 8] [] rfl (sub_cons 0 rfl (sub_cons 0 rfl (sub_cons 0 rfl (sub_cons 3 rfl (sub_cons 4 rfl (sub_tail (sub_tail (sub_tail (sub_tail (sub_tail (sub_self)))))))))))), H⟩
                          · obtain ⟨x15115, ha, hS, H⟩ := hI
                            rw [hj15116] at H
                            (try dsimp only at H)
                            refine EW.at ?_ a ha
                            clear ha a
                            refine EW.condP' (o := (.tmp 154)) (x := Cd9.r.r.r.r.r.r.l.r.l.l.r.l.l.r.r.r.r.l.r.l.r.r.r.l.r.r.r.l) (y := Cd9.r.r.r.r.r.r.l.r.l.l.r.l.l.r.r.r.r.l.r.l.r.r.r.l.r.r.r.r) (x15115) (by kernel_rfl) (by kernel_rfl) (fun h15118 => ?_) (fun h15118 => ?_)
                            · rw [if_pos h15118] at H
                              refine EW.seq (x := Cd9.r.r.r.r.r.r.l.r.l.l.r.l.l.r.r.r.r.l.r.l.r.r.r.l.r.r.r.l.l) (y := Cd9.r.r.r.r.r.r.l.r.l.l.r.l.l.r.r.r.r.l.r.l.r.r.r.l.r.r.r.l.r) (by kernel_rfl) ?_
                              refine EW.region (id := 33) (ops := Cd9.r.r.r.r.r.r.l.r.l.l.r.l.l.r.r.r.r.l.r.l.r.r.r.l.r.r.r.l.l.ops) (by kernel_rfl) ?_
                              refine EL.quick 1 [4] [(4, .bool (false))] (by kernel_rfl) ?_
                              refine EL.done (by kernel_rfl) ?_
                              refine EQ.code ?_
                              refine EW.ret (by kernel_rfl) ?_
                              refine EQ.ret ?_
                              refine EQ.ret ?_
                              refine EQ.ret ?_
                              refine EQ.ret ?_
                              refine EQ.ret ?_
                              refine EQ.ret ?_
                              refine EQ.ret ?_
                              obtain rfl := Option.some.inj H
                              exact EQ.leave (.bool (false)) (by kernel_rfl) ⟨_, rfl, rfl, (hS.re [] [0, 0, 0, 0, 0, 0, 0, 0, 0] rfl (sub_tail (sub_tail (sub_tail (sub_self)))))⟩
                            · rw [if_neg h15118] at H
                              refine EW.skip (by kernel_rfl) ?_
                              refine EQ.pop ?_
                              refine EQ.to ?_
                              refine EQ.keep [1, 7, 8, 9, 11] [(1, .slice (some ad14845) l10.length C12), (7, .pointer (some ⟨g9195, 0, none⟩)), (8, .pointer (some ⟨g9203, 0, none⟩)), (9, .int .i64 x13850), (11, .int .i64 y14849)] (by kernel_rfl) ?_
                              exact fun a ha => ⟨x13844, x13847, A13845, C13846, A13848, C13849, ha, (hS.re [8, 8, 8, 8, 7, 7, 7] [7, 7] rfl (sub_cons 0 rfl (sub_cons 0 rfl (sub_cons 0 rfl (sub_cons 3 rfl (sub_cons 4 rfl (sub_tail (sub_tail (sub_tail (sub_tail (sub_tail (sub_self)))))))))))), H⟩
                        · rw [if_neg h15091] at H
                          refine EW.seq (x := Cd9.r.r.r.r.r.r.l.r.l.l.r.l.l.r.r.r.r.l.r.l.r.r.r.r.l) (y := Cd9.r.r.r.r.r.r.l.r.l.l.r.l.l.r.r.r.r.l.r.l.r.r.r.r.r) (by kernel_rfl) ?_
                          obtain ⟨t15129, t15130, hc15133, H⟩ := b2_out H
                          obtain ⟨t15134, t15135, hc15138, H⟩ := b2_out H
                          have hS := hS.drew
                          refine EW.draw (B := B) (id := 20) (ops := Cd9.r.r.r.r.r.r.l.r.l.l.r.l.l.r.r.r.r.l.r.l.r.r.r.r.l.ops) [Ass.box 65 g14846 [.int .u8 ((l10.getD x13850.toNat zS65).f0), .int .u8 ((l10.getD x13850.toNat zS65).f1), .int .u8 ((l10.getD x13850.toNat zS65).f2), .int .u8 ((l10.getD x13850.toNat zS65).f3), .int .i32 ((l10.getD x13850.toNat zS65).f4), .int .i32 ((l10.getD x13850.toNat zS65).f5)], Ass.own 3 (Kd.int .i64) A9204 C9205 t9201, Ass.own 3 (Kd.int .i64) A9198 C9199 t9194] [Ro.sl (Kd.int .i64) A9048 C9049 x9047, Ro.sl (Kd.int .i64) A9048 C9049 x9047, Ro.sl (Kd.int .i64) A9048 C9049 x9047, Ro.sl (Kd.int .i64) A8 C9 l7, Ro.sl kS65 (some ad14845) C12 l10] (by kernel_rfl) (by kernel_rfl) ?_
                          have hN : Region.noSelect Cd9.r.r.r.r.r.r.l.r.l.l.r.l.l.r.r.r.r.l.r.l.r.r.r.r.l.ops = true := (by kernel_rfl)
                          have hF : freeAll Cd9.r.r.r.r.r.r.l.r.l.l.r.l.l.r.r.r.r.l.r.l.r.r.r.r.l.ops = true := (by kernel_rfl)
                          have hC : Core B [Ass.box 65 g14846 [.int .u8 ((l10.getD x13850.toNat zS65).f0), .int .u8 ((l10.getD x13850.toNat zS65).f1), .int .u8 ((l10.getD x13850.toNat zS65).f2), .int .u8 ((l10.getD x13850.toNat zS65).f3), .int .i32 ((l10.getD x13850.toNat zS65).f4), .int .i32 ((l10.getD x13850.toNat zS65).f5)], Ass.own 3 (Kd.int .i64) A9204 C9205 t9201, Ass.own 3 (Kd.int .i64) A9198 C9199 t9194] [Ro.sl (Kd.int .i64) A9048 C9049 x9047, Ro.sl (Kd.int .i64) A9048 C9049 x9047, Ro.sl (Kd.int .i64) A9048 C9049 x9047, Ro.sl (Kd.int .i64) A8 C9 l7, Ro.sl kS65 (some ad14845) C12 l10] _ := ⟨_, _, hS.re [6, 3, 2] [] rfl sub_self⟩
                          refine ED.quick hN hF hC [0, 1, 2, 5, 6, 7] [1, 7, 8, 9, 11, 92, 93, 94, 97, 98, 99] 5 [(1, .slice (some ad14845) l10.length C12), (7, .pointer (some ⟨g9195, 0, none⟩)), (8, .pointer (some ⟨g9203, 0, none⟩)), (9, .int .i64 x13850), (11, .int .i64 y14849), (92, .pointer (some ⟨g9195, 0, none⟩)), (93, .int .i32 x14854), (94, .pointer (some ⟨g14846, 4, none⟩)), (97, .pointer (some ⟨g9203, 0, none⟩)), (98, .int .i32 x14854), (99, .pointer (some ⟨g14846, 4, none⟩))] #[true, true, true, false, false, true, true, true, false, false, false] (by kernel_rfl) (by kernel_rfl) ?_
                          refine ED.Y hN hF hC 3 4 #[true, true, true, true, false, true, true, true, false, false, false] (by kernel_rfl) (by kernel_rfl) rfl (fun _ _ _ hS => YO.loadBox hS 0 rfl 21 4 1 (.int .i32 ((l10.getD x13850.toNat zS65).f4)) 95 (by kernel_rfl) (by kernel_rfl) (by kernel_rfl) (by kernel_rfl)) ?_
                          refine ED.Y hN hF hC 8 3 #[true, true, true, true, false, true, true, true, true, false, false] (by kernel_rfl) (by kernel_rfl) rfl (fun _ _ _ hS => YO.loadBox hS 0 rfl 21 4 1 (.int .i32 ((l10.getD x13850.toNat zS65).f4)) 100 (by kernel_rfl) (by kernel_rfl) (by kernel_rfl) (by kernel_rfl)) ?_
                          have hS : St B _ (Ass.box 95 g9195 [.slice A13848 x13847.length C13849, .slice A9198 t9194.length C9199] :: Ass.deep 76 69 kS69 A13848 C13849 x13847 :: Ass.own 3 (Kd.int .i64) A9198 C9199 t9194 :: Ass.box 65 g14846 [.int .u8 ((l10.getD x13850.toNat zS65).f0), .int .u8 ((l10.getD x13850.toNat zS65).f1), .int .u8 ((l10.getD x13850.toNat zS65).f2), .int .u8 ((l10.getD x13850.toNat zS65).f3), .int .i32 ((l10.getD x13850.toNat zS65).f4), .int .i32 ((l10.getD x13850.toNat zS65).f5)] :: Ass.box 75 g9203 [.slice A9204 t9201.length C9205, .slice A13845 x13844.length C13846] :: Ass.own 3 (Kd.int .i64) A9204 C9205 t9201 :: Ass.deep 76 69 kS69 A13845 C13846 x13844 :: os) (Ro.sl (Kd.int .i64) A9048 C9049 x9047 :: Ro.sl (Kd.int .i64) A9048 C9049 x9047 :: Ro.sl (Kd.int .i64) A9048 C9049 x9047 :: Ro.sl (Kd.int .i64) A8 C9 l7 :: Ro.sl kS65 (some ad14845) C12 l10 :: rs) := hS.re [6, 6, 6] [] rfl sub_self
                          refine ED.one 4 2 #[true, true, true, true, true, true, true, true, true, false, false] (by kernel_rfl) (by kernel_rfl) (by kernel_rfl) (EO.callD 40 [.pointer (some ⟨g9195, 0, none⟩), .int .i32 x14854, .int .i32 ((l10.getD x13850.toNat zS65).f4)] _ 96 (by kernel_rfl) (by kernel_rfl) (by kernel_rfl) (arena_Arena_Set.calls hc15133 hS) ?_)
                          rintro v w ⟨A15143, C15144, rfl, hS⟩
                          have hC : Core B [Ass.box 65 g14846 [.int .u8 ((l10.getD x13850.toNat zS65).f0), .int .u8 ((l10.getD x13850.toNat zS65).f1), .int .u8 ((l10.getD x13850.toNat zS65).f2), .int .u8 ((l10.getD x13850.toNat zS65).f3), .int .i32 ((l10.getD x13850.toNat zS65).f4), .int .i32 ((l10.getD x13850.toNat zS65).f5)], Ass.own 3 (Kd.int .i64) A9204 C9205 t9201, Ass.own 3 (Kd.int .i64) A9198 C9199 t9194] [Ro.sl (Kd.int .i64) A9048 C9049 x9047, Ro.sl (Kd.int .i64) A9048 C9049 x9047, Ro.sl (Kd.int .i64) A9048 C9049 x9047, Ro.sl (Kd.int .i64) A8 C9 l7, Ro.sl kS65 (some ad14845) C12 l10] _ := ⟨_, _, hS.re [2, 5, 4] [] rfl sub_self⟩
                          refine ⟨hC, ?_⟩
                          have hS : St B _ (Ass.box 75 g9203 [.slice A9204 t9201.length C9205, .slice A13845 x13844.length C13846] :: Ass.own 3 (Kd.int .i64) A9204 C9205 t9201 :: Ass.deep 76 69 kS69 A13845 C13846 x13844 :: Ass.box 95 g9195 [.slice A15143 t15129.length C15144, .slice A9198 t9194.length C9199] :: Ass.deep 76 69 kS69 A15143 C15144 t15129 :: Ass.own 3 (Kd.int .i64) A9198 C9199 t9194 :: Ass.box 65 g14846 [.int .u8 ((l10.getD x13850.toNat zS65).f0), .int .u8 ((l10.getD x13850.toNat zS65).f1), .int .u8 ((l10.getD x13850.toNat zS65).f2), .int .u8 ((l10.getD x13850.toNat zS65).f3), .int .i32 ((l10.getD x13850.toNat zS65).f4), .int .i32 ((l10.getD x13850.toNat zS65).f5)] :: os) (Ro.sl (Kd.int .i64) A9048 C9049 x9047 :: Ro.sl (Kd.int .i64) A9048 C9049 x9047 :: Ro.sl (Kd.int .i64) A9048 C9049 x9047 :: Ro.sl (Kd.int .i64) A8 C9 l7 :: Ro.sl kS65 (some ad14845) C12 l10 :: rs) := hS.re [6, 6, 6] [] rfl sub_self
                          refine ED.one 9 1 #[true, true, true, true, true, true, true, true, true, true, false] (by kernel_rfl) (by kernel_rfl) (by kernel_rfl) (EO.callD 41 [.pointer (some ⟨g9203, 0, none⟩), .int .i32 x14854, .int .i32 ((l10.getD x13850.toNat zS65).f4)] _ 101 (by kernel_rfl) (by kernel_rfl) (by kernel_rfl) (confidantref12_Arena_Set.calls hc15138 hS) ?_)
                          rintro v w ⟨A15145, C15146, rfl, hS⟩
                          have hC : Core B [Ass.box 65 g14846 [.int .u8 ((l10.getD x13850.toNat zS65).f0), .int .u8 ((l10.getD x13850.toNat zS65).f1), .int .u8 ((l10.getD x13850.toNat zS65).f2), .int .u8 ((l10.getD x13850.toNat zS65).f3), .int .i32 ((l10.getD x13850.toNat zS65).f4), .int .i32 ((l10.getD x13850.toNat zS65).f5)], Ass.own 3 (Kd.int .i64) A9204 C9205 t9201, Ass.own 3 (Kd.int .i64) A9198 C9199 t9194] [Ro.sl (Kd.int .i64) A9048 C9049 x9047, Ro.sl (Kd.int .i64) A9048 C9049 x9047, Ro.sl (Kd.int .i64) A9048 C9049 x9047, Ro.sl (Kd.int .i64) A8 C9 l7, Ro.sl kS65 (some ad14845) C12 l10] _ := ⟨_, _, hS.re [5, 2, 6] [] rfl sub_self⟩
                          refine ⟨hC, ?_⟩
                          refine ED.quick hN hF hC [10] [1, 7, 8, 9, 11, 102] 0 [(1, .slice (some ad14845) l10.length C12), (7, .pointer (some ⟨g9195, 0, none⟩)), (8, .pointer (some ⟨g9203, 0, none⟩)), (9, .int .i64 x13850), (11, .int .i64 y14849), (102, .bool (!((t15130 == t15135))))] #[true, true, true, true, true, true, true, true, true, true, true] (by kernel_rfl) (by kernel_rfl) ?_
                          refine ED.done (by kernel_rfl) ?_
                          refine EQ.code ?_
                          refine EW.condQ (b := !((t15130 == t15135))) (o := (.tmp 102)) (x := Cd9.r.r.r.r.r.r.l.r.l.l.r.l.l.r.r.r.r.l.r.l.r.r.r.r.r.l) (y := Cd9.r.r.r.r.r.r.l.r.l.l.r.l.l.r.r.r.r.l.r.l.r.r.r.r.r.r) ((t15130 == t15135) = true) (false) (by kernel_rfl) (by kernel_rfl) ⟨fun h => (by rw [h] <;> rfl), fun h => (by rw [Bool.eq_false_iff.2 h] <;> rfl)⟩ (fun h15147 => ?_) (fun h15147 => ?_)
                          · rw [if_pos h15147] at H
                            refine EW.skip (by kernel_rfl) ?_
                            refine EQ.pop ?_
                            refine EQ.to ?_
                            refine EQ.keep [1, 7, 8, 9, 11] [(1, .slice (some ad14845) l10.length C12), (7, .pointer (some ⟨g9195, 0, none⟩)), (8, .pointer (some ⟨g9203, 0, none⟩)), (9, .int .i64 x13850), (11, .int .i64 y14849)] (by kernel_rfl) ?_
                            exact fun a ha => ⟨t15134, t15129, A15145, C15146, A15143, C15144, ha, (hS.re [6, 6, 6, 6, 6, 6, 6] [] rfl (sub_cons 0 rfl (sub_cons 0 rfl (sub_cons 0 rfl (sub_cons 3 rfl (sub_cons 4 rfl (sub_tail (sub_tail (sub_tail (sub_tail (sub_tail (sub_self)))))))))))), H⟩
                          · rw [if_neg h15147] at H
                            refine EW.seq (x := Cd9.r.r.r.r.r.r.l.r.l.l.r.l.l.r.r.r.r.l.r.l.r.r.r.r.r.l.l) (y := Cd9.r.r.r.r.r.r.l.r.l.l.r.l.l.r.r.r.r.l.r.l.r.r.r.r.r.l.r) (by kernel_rfl) ?_
                            refine EW.region (id := 21) (ops := Cd9.r.r.r.r.r.r.l.r.l.l.r.l.l.r.r.r.r.l.r.l.r.r.r.r.r.l.l.ops) (by kernel_rfl) ?_
                            refine EL.quick 1 [4] [(4, .bool (false))] (by kernel_rfl) ?_
                            refine EL.done (by kernel_rfl) ?_
                            refine EQ.code ?_
                            refine EW.ret (by kernel_rfl) ?_
                            refine EQ.ret ?_
                            refine EQ.ret ?_
                            refine EQ.ret ?_
                            refine EQ.ret ?_
                            refine EQ.ret ?_
                            refine EQ.ret ?_
                            refine EQ.ret ?_
                            obtain rfl := Option.some.inj H
                            exact EQ.leave (.bool (false)) (by kernel_rfl) ⟨_, rfl, rfl, (hS.re [] [0, 0, 0, 0, 0, 0, 0] rfl (sub_tail (sub_tail (sub_tail (sub_self)))))⟩
                  · obtain ⟨x15043, x15046, A15044, C15045, A15047, C15048, ha, hS, H⟩ := hI
                    rw [hj15049] at H
                    (try dsimp only at H)
                    refine EW.at ?_ a ha
                    clear ha a
                    obtain ⟨j15164, hj15164, H⟩ := lt_out H
                    refine EW.cut (x := Cd9.r.r.r.r.r.r.l.r.l.l.r.l.l.r.r.r.r.r.l) (y := Cd9.r.r.r.r.r.r.l.r.l.l.r.l.l.r.r.r.r.r.r) (fun a w => ∃ x15163 : Bool, Sat 214 [(1, .slice (some ad14845) l10.length C12), (7, .pointer (some ⟨g9195, 0, none⟩)), (8, .pointer (some ⟨g9203, 0, none⟩)), (9, .int .i64 x13850), (166, .bool (x15163))] a ∧ St B w (Ass.box 95 g9195 [.slice A15047 x15046.length C15048, .slice A9198 t9194.length C9199] :: Ass.deep 76 69 kS69 A15047 C15048 x15046 :: Ass.own 3 (Kd.int .i64) A9198 C9199 t9194 :: Ass.box 75 g9203 [.slice A9204 t9201.length C9205, .slice A15044 x15043.length C15045] :: Ass.own 3 (Kd.int .i64) A9204 C9205 t9201 :: Ass.deep 76 69 kS69 A15044 C15045 x15043 :: Ass.box 65 g14846 [.int .u8 ((l10.getD x13850.toNat zS65).f0), .int .u8 ((l10.getD x13850.toNat zS65).f1), .int .u8 ((l10.getD x13850.toNat zS65).f2), .int .u8 ((l10.getD x13850.toNat zS65).f3), .int .i32 ((l10.getD x13850.toNat zS65).f4), .int .i32 ((l10.getD x13850.toNat zS65).f5)] :: os) (Ro.sl (Kd.int .i64) A9048 C9049 x9047 :: Ro.sl (Kd.int .i64) A9048 C9049 x9047 :: Ro.sl (Kd.int .i64) A9048 C9049 x9047 :: Ro.sl (Kd.int .i64) A8 C9 l7 :: Ro.sl kS65 (some ad14845) C12 l10 :: rs) ∧ j15164 x15163 = some x8769) (by kernel_rfl) ?_ (fun a w hI => ?_)
                    · refine EW.region (id := 34) (ops := Cd9.r.r.r.r.r.r.l.r.l.l.r.l.l.r.r.r.r.r.l.ops) (by kernel_rfl) ?_
                      refine EL.quick 2 [1, 7, 8, 9, 11, 155, 156] [(1, .slice (some ad14845) l10.length C12), (7, .pointer (some ⟨g9195, 0, none⟩)), (8, .pointer (some ⟨g9203, 0, none⟩)), (9, .int .i64 x13850), (11, .int .i64 y14849), (155, .pointer (some ⟨g9195, 0, none⟩)), (156, .int .i64 y14849)] (by kernel_rfl) ?_
                      have hS : St B _ (Ass.box 95 g9195 [.slice A15047 x15046.length C15048, .slice A9198 t9194.length C9199] :: Ass.deep 76 69 kS69 A15047 C15048 x15046 :: Ass.own 3 (Kd.int .i64) A9198 C9199 t9194 :: Ass.box 75 g9203 [.slice A9204 t9201.length C9205, .slice A15044 x15043.length C15045] :: Ass.own 3 (Kd.int .i64) A9204 C9205 t9201 :: Ass.deep 76 69 kS69 A15044 C15045 x15043 :: Ass.box 65 g14846 [.int .u8 ((l10.getD x13850.toNat zS65).f0), .int .u8 ((l10.getD x13850.toNat zS65).f1), .int .u8 ((l10.getD x13850.toNat zS65).f2), .int .u8 ((l10.getD x13850.toNat zS65).f3), .int .i32 ((l10.getD x13850.toNat zS65).f4), .int .i32 ((l10.getD x13850.toNat zS65).f5)] :: os) (Ro.sl (Kd.int .i64) A9048 C9049 x9047 :: Ro.sl (Kd.int .i64) A9048 C9049 x9047 :: Ro.sl (Kd.int .i64) A9048 C9049 x9047 :: Ro.sl (Kd.int .i64) A8 C9 l7 :: Ro.sl kS65 (some ad14845) C12 l10 :: rs) := hS.re [5, 5, 5] [] rfl sub_self
                      obtain ⟨t15165, hc15166, H⟩ := b1_out H
                      refine EL.of (EO.callD 42 [.pointer (some ⟨g9195, 0, none⟩), .int .i64 y14849] _ 157 (by kernel_rfl) (by kernel_rfl) (by kernel_rfl) (arena_Arena_Count.calls hc15166 hS) ?_)
                      rintro v w ⟨rfl, hS⟩
                      refine EL.quick 2 [1, 7, 8, 9, 157, 158, 159] [(1, .slice (some ad14845) l10.length C12), (7, .pointer (some ⟨g9195, 0, none⟩)), (8, .pointer (some ⟨g9203, 0, none⟩)), (9, .int .i64 x13850), (157, .int .i64 t15165), (158, .pointer (some ⟨g9203, 0, none⟩)), (159, .int .i64 y14849)] (by kernel_rfl) ?_
                      have hS : St B _ (Ass.box 75 g9203 [.slice A9204 t9201.length C9205, .slice A15044 x15043.length C15045] :: Ass.own 3 (Kd.int .i64) A9204 C9205 t9201 :: Ass.deep 76 69 kS69 A15044 C15045 x15043 :: Ass.box 95 g9195 [.slice A15047 x15046.length C15048, .slice A9198 t9194.length C9199] :: Ass.deep 76 69 kS69 A15047 C15048 x15046 :: Ass.own 3 (Kd.int .i64) A9198 C9199 t9194 :: Ass.box 65 g14846 [.int .u8 ((l10.getD x13850.toNat zS65).f0), .int .u8 ((l10.getD x13850.toNat zS65).f1), .int .u8 ((l10.getD x13850.toNat zS65).f2), .int .u8 ((l10.getD x13850.toNat zS65).f3), .int .i32 ((l10.getD x13850.toNat zS65).f4), .int .i32 ((l10.getD x13850.toNat zS65).f5)] :: os) (Ro.sl (Kd.int .i64) A9048 C9049 x9047 :: Ro.sl (Kd.int .i64) A9048 C9049 x9047 :: Ro.sl (Kd.int .i64) A9048 C9049 x9047 :: Ro.sl (Kd.int .i64) A8 C9 l7 :: Ro.sl kS65 (some ad14845) C12 l10 :: rs) := hS.re [5, 5, 5] [] rfl sub_self
                      obtain ⟨t15167, hc15168, H⟩ := b1_out H
                      refine EL.of (EO.callD 43 [.pointer (some ⟨g9203, 0, none⟩), .int .i64 y14849] _ 160 (by kernel_rfl) (by kernel_rfl) (by kernel_rfl) (confidantref12_Arena_Count.calls hc15168 hS) ?_)
                      rintro v w ⟨rfl, hS⟩
                      refine EL.quick 2 [1, 7, 8, 9, 162] [(1, .slice (some ad14845) l10.length C12), (7, .pointer (some ⟨g9195, 0, none⟩)), (8, .pointer (some ⟨g9203, 0, none⟩)), (9, .int .i64 x13850), (162, .bool (!(decide (t15165 = t15167))))] (by kernel_rfl) ?_
                      by_cases h15169 : t15165 = t15167
                      · rw [if_pos h15169] at H
                        refine EL.keep [1, 7, 8, 9, 162] [(1, .slice (some ad14845) l10.length C12), (7, .pointer (some ⟨g9195, 0, none⟩)), (8, .pointer (some ⟨g9203, 0, none⟩)), (9, .int .i64 x13850), (162, .bool (!(decide (t15165 = t15167))))] (by kernel_rfl) ?_
                        refine EL.as' [(1, .slice (some ad14845) l10.length C12), (7, .pointer (some ⟨g9195, 0, none⟩)), (8, .pointer (some ⟨g9203, 0, none⟩)), (9, .int .i64 x13850), (162, .bool (false))] (by simp only [dec_t h15169, Bool.not_true, Bool.not_false]) ?_
                        refine EL.quick 1 [1, 7, 8, 9, 162, 163] [(1, .slice (some ad14845) l10.length C12), (7, .pointer (some ⟨g9195, 0, none⟩)), (8, .pointer (some ⟨g9203, 0, none⟩)), (9, .int .i64 x13850), (162, .bool (false)), (163, .pointer (some ⟨g9195, 0, none⟩))] (by kernel_rfl) ?_
                        have hS : St B _ (Ass.box 95 g9195 [.slice A15047 x15046.length C15048, .slice A9198 t9194.length C9199] :: Ass.deep 76 69 kS69 A15047 C15048 x15046 :: Ass.own 3 (Kd.int .i64) A9198 C9199 t9194 :: Ass.box 75 g9203 [.slice A9204 t9201.length C9205, .slice A15044 x15043.length C15045] :: Ass.own 3 (Kd.int .i64) A9204 C9205 t9201 :: Ass.deep 76 69 kS69 A15044 C15045 x15043 :: Ass.box 65 g14846 [.int .u8 ((l10.getD x13850.toNat zS65).f0), .int .u8 ((l10.getD x13850.toNat zS65).f1), .int .u8 ((l10.getD x13850.toNat zS65).f2), .int .u8 ((l10.getD x13850.toNat zS65).f3), .int .i32 ((l10.getD x13850.toNat zS65).f4), .int .i32 ((l10.getD x13850.toNat zS65).f5)] :: os) (Ro.sl (Kd.int .i64) A9048 C9049 x9047 :: Ro.sl (Kd.int .i64) A9048 C9049 x9047 :: Ro.sl (Kd.int .i64) A9048 C9049 x9047 :: Ro.sl (Kd.int .i64) A8 C9 l7 :: Ro.sl kS65 (some ad14845) C12 l10 :: rs) := hS.re [5, 5, 5] [] rfl sub_self
                        obtain ⟨t15170, hc15171, H⟩ := b1_out H
                        refine EL.of (EO.callD 42 [.pointer (some ⟨g9195, 0, none⟩), .int .i64 (-1)] _ 164 (by kernel_rfl) (by kernel_rfl) (by kernel_rfl) (arena_Arena_Count.calls hc15171 hS) ?_)
                        rintro v w ⟨rfl, hS⟩
                        refine EL.quick 2 [1, 7, 8, 9, 163, 164, 165, 166] [(1, .slice (some ad14845) l10.length C12), (7, .pointer (some ⟨g9195, 0, none⟩)), (8, .pointer (some ⟨g9203, 0, none⟩)), (9, .int .i64 x13850), (163, .pointer (some ⟨g9195, 0, none⟩)), (164, .int .i64 t15170), (165, .bool (!(decide (t15170 = 0)))), (166, .bool (!(decide (t15170 = 0))))] (by kernel_rfl) ?_
                        refine EL.done (by kernel_rfl) ?_
                        refine EQ.to ?_
                        refine EQ.keep [1, 7, 8, 9, 166] [(1, .slice (some ad14845) l10.length C12), (7, .pointer (some ⟨g9195, 0, none⟩)), (8, .pointer (some ⟨g9203, 0, none⟩)), (9, .int .i64 x13850), (166, .bool (!(decide (t15170 = 0))))] (by kernel_rfl) ?_
                        exact fun a ha => ⟨!(decide (t15170 = 0)), ha, (hS.re [6, 6, 6, 6, 6, 6, 6] [] rfl (sub_cons 0 rfl (sub_cons 0 rfl (sub_cons 0 rfl (sub_cons 3 rfl (sub_cons 4 rfl (sub_tail (sub_tail (sub_tail (sub_tail (sub_tail (sub_self)))))))))))), H⟩
                      · rw [if_neg h15169] at H
                        refine EL.keep [1, 7, 8, 9, 162] [(1, .slice (some ad14845) l10.length C12), (7, .pointer (some ⟨g9195, 0, none⟩)), (8, .pointer (some ⟨g9203, 0, none⟩)), (9, .int .i64 x13850), (162, .bool (!(decide (t15165 = t15167))))] (by kernel_rfl) ?_
                        refine EL.as' [(1, .slice (some ad14845) l10.length C12), (7, .pointer (some ⟨g9195, 0, none⟩)), (8, .pointer (some ⟨g9203, 0, none⟩)), (9, .int .i64 x13850), (162, .bool (true))] (by simp only [dec_f h15169, Bool.not_true, Bool.not_false]) ?_
                        refine EL.quick 4 [1, 7, 8, 9, 166] [(1, .slice (some ad14845) l10.length C12), (7, .pointer (some ⟨g9195, 0, none⟩)), (8, .pointer (some ⟨g9203, 0, none⟩)), (9, .int .i64 x13850), (166, .bool (true))] (by kernel_rfl) ?_
                        refine EL.done (by kernel_rfl) ?_
                        refine EQ.to ?_
                        refine EQ.keep [1, 7, 8, 9, 166] [(1, .slice (some ad14845) l10.length C12), (7, .pointer (some ⟨g9195, 0, none⟩)), (8, .pointer (some ⟨g9203, 0, none⟩)), (9, .int .i64 x13850), (166, .bool (true))] (by kernel_rfl) ?_
                        exact fun a ha => ⟨true, ha, (hS.re [6, 3, 3, 3, 6, 6, 6] [] rfl (sub_cons 0 rfl (sub_cons 0 rfl (sub_cons 0 rfl (sub_cons 3 rfl (sub_cons 4 rfl (sub_tail (sub_tail (sub_tail (sub_tail (sub_tail (sub_self)))))))))))), H⟩
                    · obtain ⟨x15163, ha, hS, H⟩ := hI
                      rw [hj15164] at H
                      (try dsimp only at H)
                      refine EW.at ?_ a ha
                      clear ha a
                      refine EW.condP' (o := (.tmp 166)) (x := Cd9.r.r.r.r.r.r.l.r.l.l.r.l.l.r.r.r.r.r.r.l) (y := Cd9.r.r.r.r.r.r.l.r.l.l.r.l.l.r.r.r.r.r.r.r) (x15163) (by kernel_rfl) (by kernel_rfl) (fun h15172 => ?_) (fun h15172 => ?_)
                      · rw [if_pos h15172] at H
                        refine EW.seq (x := Cd9.r.r.r.r.r.r.l.r.l.l.r.l.l.r.r.r.r.r.r.l.l) (y := Cd9.r.r.r.r.r.r.l.r.l.l.r.l.l.r.r.r.r.r.r.l.r) (by kernel_rfl) ?_
                        refine EW.region (id := 35) (ops := Cd9.r.r.r.r.r.r.l.r.l.l.r.l.l.r.r.r.r.r.r.l.l.ops) (by kernel_rfl) ?_
                        refine EL.quick 1 [4] [(4, .bool (false))] (by kernel_rfl) ?_
                        refine EL.done (by kernel_rfl) ?_
                        refine EQ.code ?_
                        refine EW.ret (by kernel_rfl) ?_
                        refine EQ.ret ?_
                        refine EQ.ret ?_
                        refine EQ.ret ?_
                        refine EQ.ret ?_
                        refine EQ.ret ?_
                        obtain rfl := Option.some.inj H
                        exact EQ.leave (.bool (false)) (by kernel_rfl) ⟨_, rfl, rfl, (hS.re [] [0, 0, 0, 0, 0, 0, 0] rfl (sub_tail (sub_tail (sub_tail (sub_self)))))⟩
                      · rw [if_neg h15172] at H
                        refine EW.skip (by kernel_rfl) ?_
                        refine EQ.pop ?_
                        refine EQ.code ?_
                        refine EW.region (id := 13) (ops := Cd9.r.r.r.r.r.r.l.r.l.l.r.r.ops) (by kernel_rfl) ?_
                        refine EL.quick 3 [1, 7, 8, 9] [(1, .slice (some ad14845) l10.length C12), (7, .pointer (some ⟨g9195, 0, none⟩)), (8, .pointer (some ⟨g9203, 0, none⟩)), (9, .int .i64 (IntKind.i64.wrap (x13850 + 1)))] (by kernel_rfl) ?_
                        refine EL.done (by kernel_rfl) ?_
                        refine EQ.to ?_
                        refine EQ.keep [1, 7, 8, 9] [(1, .slice (some ad14845) l10.length C12), (7, .pointer (some ⟨g9195, 0, none⟩)), (8, .pointer (some ⟨g9203, 0, none⟩)), (9, .int .i64 (IntKind.i64.wrap (x13850 + 1)))] (by kernel_rfl) ?_
                        exact fun a ha => ⟨n, Nat.lt_succ_self n, x15043, x15046, IntKind.i64.wrap (x13850 + 1), A15044, C15045, A15047, C15048, ha, (hS.re [2, 2, 2, 5, 5, 5] [6] rfl (sub_cons 0 rfl (sub_cons 0 rfl (sub_cons 0 rfl (sub_cons 3 rfl (sub_cons 4 rfl (sub_tail (sub_tail (sub_tail (sub_tail (sub_tail (sub_self)))))))))))), H⟩
              · rw [if_neg h14516] at H
                refine EW.exit (id := 2) (by kernel_rfl) ?_
                refine EQ.exitCode ?_
                refine EQ.exitTo ?_
                refine EQ.exitHere ?_
                refine EQ.to ?_
                refine EQ.keep [7, 8] [(7, .pointer (some ⟨g9195, 0, none⟩)), (8, .pointer (some ⟨g9203, 0, none⟩))] (by kernel_rfl) ?_
                exact fun a ha => ⟨x13844, x13847, A13845, C13846, A13848, C13849, ha, (hS.re [5, 5, 5, 5, 5, 5] [] rfl (sub_cons 0 rfl (sub_cons 0 rfl (sub_cons 0 rfl (sub_cons 3 rfl (sub_cons 4 rfl (sub_tail (sub_tail (sub_tail (sub_tail (sub_tail (sub_self)))))))))))), H⟩
          · obtain ⟨x13177, x13180, A13178, C13179, A13181, C13182, ha, hS, H⟩ := hI
            rw [hj13183] at H
            (try dsimp only at H)
            refine EW.at ?_ a ha
            clear ha a
            refine EW.seq (x := Cd9.r.r.r.r.r.r.r.l) (y := Cd9.r.r.r.r.r.r.r.r) (by kernel_rfl) ?_
            refine EW.seq (x := Cd9.r.r.r.r.r.r.r.l.l) (y := Cd9.r.r.r.r.r.r.r.l.r) (by kernel_rfl) ?_
            refine EW.region (id := 36) (ops := Cd9.r.r.r.r.r.r.r.l.l.ops) (by kernel_rfl) ?_
            refine EL.quick 1 [7, 8, 22] [(7, .pointer (some ⟨g9195, 0, none⟩)), (8, .pointer (some ⟨g9203, 0, none⟩)), (22, .int .i64 0)] (by kernel_rfl) ?_
            refine EL.done (by kernel_rfl) ?_
            refine EQ.code ?_
            refine EW.block (x := Cd9.r.r.r.r.r.r.r.l.r.l) (id := 5) (by kernel_rfl) ?_
            refine EW.loop (x := Cd9.r.r.r.r.r.r.r.l.r.l.l) (fun n a w => ∃ x15613 : Int, Sat 214 [(7, .pointer (some ⟨g9195, 0, none⟩)), (8, .pointer (some ⟨g9203, 0, none⟩)), (22, .int .i64 x15613)] a ∧ St B w (Ass.box 75 g9203 [.slice A9204 t9201.length C9205, .slice A13178 x13177.length C13179] :: Ass.own 3 (Kd.int .i64) A9204 C9205 t9201 :: Ass.deep 76 69 kS69 A13178 C13179 x13177 :: Ass.box 95 g9195 [.slice A13181 x13180.length C13182, .slice A9198 t9194.length C9199] :: Ass.deep 76 69 kS69 A13181 C13182 x13180 :: Ass.own 3 (Kd.int .i64) A9198 C9199 t9194 :: os) (Ro.sl (Kd.int .i64) A9048 C9049 x9047 :: Ro.sl (Kd.int .i64) A9048 C9049 x9047 :: Ro.sl (Kd.int .i64) A9048 C9049 x9047 :: Ro.sl (Kd.int .i64) A8 C9 l7 :: Ro.sl kS65 A11 C12 l10 :: rs) ∧ confidantlaw12_ArenaPlays.l2 K x13177 x13180 t9194 n x15613 = some x8769) K (by kernel_rfl) ?_ (fun n a w hI => ?_)
            · refine EQ.keep [7, 8, 22] [(7, .pointer (some ⟨g9195, 0, none⟩)), (8, .pointer (some ⟨g9203, 0, none⟩)), (22, .int .i64 0)] (by kernel_rfl) ?_
              exact fun a ha => ⟨0, ha, (hS.re [5, 5, 5, 5, 5, 5] [] rfl (sub_cons 0 rfl (sub_cons 0 rfl (sub_cons 0 rfl (sub_cons 3 rfl (sub_cons 4 rfl (sub_tail (sub_tail (sub_tail (sub_tail (sub_tail (sub_self)))))))))))), H⟩
            · obtain ⟨x15613, ha, hS, H⟩ := hI
              obtain _ | n := n
              · simp [confidantlaw12_ArenaPlays.l2] at H
              rw [confidantlaw12_ArenaPlays.l2.eq_2] at H
              refine EW.at ?_ a ha
              clear ha a
              refine EW.seq (x := Cd9.r.r.r.r.r.r.r.l.r.l.l.l) (y := Cd9.r.r.r.r.r.r.r.l.r.l.l.r) (by kernel_rfl) ?_
              refine EW.seq (x := Cd9.r.r.r.r.r.r.r.l.r.l.l.l.l) (y := Cd9.r.r.r.r.r.r.r.l.r.l.l.l.r) (by kernel_rfl) ?_
              refine EW.region (id := 37) (ops := Cd9.r.r.r.r.r.r.r.l.r.l.l.l.l.ops) (by kernel_rfl) ?_
              refine EL.quick 4 [7, 8, 22, 167, 170] [(7, .pointer (some ⟨g9195, 0, none⟩)), (8, .pointer (some ⟨g9203, 0, none⟩)), (22, .int .i64 x15613), (167, .int .i64 x15613), (170, .pointer (some ⟨g9203, 1, none⟩))] (by kernel_rfl) ?_
              refine EL.of (EO.Y (YO.loadBox hS 0 rfl 73 1 1 (.slice A13178 x13177.length C13179) 171 (by kernel_rfl) (by kernel_rfl) (by kernel_rfl) (by kernel_rfl)) ?_)
              refine EL.quick 2 [7, 8, 22, 173] [(7, .pointer (some ⟨g9195, 0, none⟩)), (8, .pointer (some ⟨g9203, 0, none⟩)), (22, .int .i64 x15613), (173, .bool (decide (x15613 < (x13177.length : Int))))] (by kernel_rfl) ?_
              refine EL.done (by kernel_rfl) ?_
              refine EQ.code ?_
              refine EW.condP (o := (.tmp 173)) (x := Cd9.r.r.r.r.r.r.r.l.r.l.l.l.r.l) (y := Cd9.r.r.r.r.r.r.r.l.r.l.l.l.r.r) (x15613 < (x13177.length : Int)) (by kernel_rfl) (by kernel_rfl) (fun h16091 => ?_) (fun h16091 => ?_)
              · rw [if_pos h16091] at H
                refine EW.skip (by kernel_rfl) ?_
                refine EQ.code ?_
                obtain ⟨j16406, hj16406, H⟩ := lt_out H
                refine EW.cut (x := Cd9.r.r.r.r.r.r.r.l.r.l.l.r.l) (y := Cd9.r.r.r.r.r.r.r.l.r.l.l.r.r) (fun a w => Sat 214 [(7, .pointer (some ⟨g9195, 0, none⟩)), (8, .pointer (some ⟨g9203, 0, none⟩)), (22, .int .i64 x15613)] a ∧ St B w (Ass.box 75 g9203 [.slice A9204 t9201.length C9205, .slice A13178 x13177.length C13179] :: Ass.own 3 (Kd.int .i64) A9204 C9205 t9201 :: Ass.deep 76 69 kS69 A13178 C13179 x13177 :: Ass.box 95 g9195 [.slice A13181 x13180.length C13182, .slice A9198 t9194.length C9199] :: Ass.deep 76 69 kS69 A13181 C13182 x13180 :: Ass.own 3 (Kd.int .i64) A9198 C9199 t9194 :: os) (Ro.sl (Kd.int .i64) A9048 C9049 x9047 :: Ro.sl (Kd.int .i64) A9048 C9049 x9047 :: Ro.sl (Kd.int .i64) A9048 C9049 x9047 :: Ro.sl (Kd.int .i64) A8 C9 l7 :: Ro.sl kS65 A11 C12 l10 :: rs) ∧ j16406 = some x8769) (by kernel_rfl) ?_ (fun a w hI => ?_)
                · refine EW.block (x := Cd9.r.r.r.r.r.r.r.l.r.l.l.r.l.l) (id := 6) (by kernel_rfl) ?_
                  refine EW.seq (x := Cd9.r.r.r.r.r.r.r.l.r.l.l.r.l.l.l) (y := Cd9.r.r.r.r.r.r.r.l.r.l.l.r.l.l.r) (by kernel_rfl) ?_
                  refine EW.region (id := 39) (ops := Cd9.r.r.r.r.r.r.r.l.r.l.l.r.l.l.l.ops) (by kernel_rfl) ?_
                  refine EL.quick 1 [7, 8, 22, 23] [(7, .pointer (some ⟨g9195, 0, none⟩)), (8, .pointer (some ⟨g9203, 0, none⟩)), (22, .int .i64 x15613), (23, .int .i64 0)] (by kernel_rfl) ?_
                  refine EL.done (by kernel_rfl) ?_
                  refine EQ.code ?_
                  refine EW.block (x := Cd9.r.r.r.r.r.r.r.l.r.l.l.r.l.l.r.l) (id := 7) (by kernel_rfl) ?_
                  refine EW.loop (x := Cd9.r.r.r.r.r.r.r.l.r.l.l.r.l.l.r.l.l) (fun n a w => ∃ x16457 : Int, Sat 214 [(7, .pointer (some ⟨g9195, 0, none⟩)), (8, .pointer (some ⟨g9203, 0, none⟩)), (22, .int .i64 x15613), (23, .int .i64 x16457)] a ∧ St B w (Ass.box 75 g9203 [.slice A9204 t9201.length C9205, .slice A13178 x13177.length C13179] :: Ass.own 3 (Kd.int .i64) A9204 C9205 t9201 :: Ass.deep 76 69 kS69 A13178 C13179 x13177 :: Ass.box 95 g9195 [.slice A13181 x13180.length C13182, .slice A9198 t9194.length C9199] :: Ass.deep 76 69 kS69 A13181 C13182 x13180 :: Ass.own 3 (Kd.int .i64) A9198 C9199 t9194 :: os) (Ro.sl (Kd.int .i64) A9048 C9049 x9047 :: Ro.sl (Kd.int .i64) A9048 C9049 x9047 :: Ro.sl (Kd.int .i64) A9048 C9049 x9047 :: Ro.sl (Kd.int .i64) A8 C9 l7 :: Ro.sl kS65 A11 C12 l10 :: rs) ∧ confidantlaw12_ArenaPlays.l3 K x15613 x13177 x13180 t9194 j16406 n x16457 = some x8769) K (by kernel_rfl) ?_ (fun n a w hI => ?_)
                  · refine EQ.keep [7, 8, 22, 23] [(7, .pointer (some ⟨g9195, 0, none⟩)), (8, .pointer (some ⟨g9203, 0, none⟩)), (22, .int .i64 x15613), (23, .int .i64 0)] (by kernel_rfl) ?_
                    exact fun a ha => ⟨0, ha, (hS.re [5, 5, 5, 5, 5, 5] [] rfl (sub_cons 0 rfl (sub_cons 0 rfl (sub_cons 0 rfl (sub_cons 3 rfl (sub_cons 4 rfl (sub_tail (sub_tail (sub_tail (sub_tail (sub_tail (sub_self)))))))))))), H⟩
                  · obtain ⟨x16457, ha, hS, H⟩ := hI
                    obtain _ | n := n
                    · simp [confidantlaw12_ArenaPlays.l3] at H
                    rw [confidantlaw12_ArenaPlays.l3.eq_2] at H
                    refine EW.at ?_ a ha
                    clear ha a
                    refine EW.seq (x := Cd9.r.r.r.r.r.r.r.l.r.l.l.r.l.l.r.l.l.l) (y := Cd9.r.r.r.r.r.r.r.l.r.l.l.r.l.l.r.l.l.r) (by kernel_rfl) ?_
                    refine EW.seq (x := Cd9.r.r.r.r.r.r.r.l.r.l.l.r.l.l.r.l.l.l.l) (y := Cd9.r.r.r.r.r.r.r.l.r.l.l.r.l.l.r.l.l.l.r) (by kernel_rfl) ?_
                    refine EW.region (id := 40) (ops := Cd9.r.r.r.r.r.r.r.l.r.l.l.r.l.l.r.l.l.l.l.ops) (by kernel_rfl) ?_
                    refine EL.quick 4 [7, 8, 22, 23, 176, 179] [(7, .pointer (some ⟨g9195, 0, none⟩)), (8, .pointer (some ⟨g9203, 0, none⟩)), (22, .int .i64 x15613), (23, .int .i64 x16457), (176, .int .i64 x16457), (179, .pointer (some ⟨g9203, 1, none⟩))] (by kernel_rfl) ?_
                    refine EL.of (EO.Y (YO.loadBox hS 0 rfl 73 1 1 (.slice A13178 x13177.length C13179) 180 (by kernel_rfl) (by kernel_rfl) (by kernel_rfl) (by kernel_rfl)) ?_)
                    refine EL.quick 1 [7, 8, 22, 23, 176, 180, 181] [(7, .pointer (some ⟨g9195, 0, none⟩)), (8, .pointer (some ⟨g9203, 0, none⟩)), (22, .int .i64 x15613), (23, .int .i64 x16457), (176, .int .i64 x16457), (180, .slice A13178 x13177.length C13179), (181, .int .i64 x15613)] (by kernel_rfl) ?_
                    obtain ⟨h16525, H⟩ := ite_in H
                    obtain ⟨ad16526, rfl⟩ := St.deep_some hS 2 rfl h16525 h16091
                    refine EL.of (EO.Y (YO.idx 73 1 ad16526 x13177.length C13179 .i64 x15613 182 (by kernel_rfl) (by kernel_rfl) (by kernel_rfl) (by kernel_rfl) h16525 h16091) ?_)
                    refine EL.of (EO.openEl hS 2 ad16526 rfl x15613 h16525 h16091 (fun A16527 C16528 => Ass.box 75 g9203 [.slice A9204 t9201.length C9205, .slice (some ad16526) x13177.length C13179] :: Ass.own 3 (Kd.int .i64) A9204 C9205 t9201 :: Ass.holed 76 69 kS69 (some ad16526) C13179 x13177 x15613.toNat (A16527, (x13177.getD x15613.toNat []).length, C16528) :: Ass.box 95 g9195 [.slice A13181 x13180.length C13182, .slice A9198 t9194.length C9199] :: Ass.deep 76 69 kS69 A13181 C13182 x13180 :: Ass.own 3 (Kd.int .i64) A9198 C9199 t9194 :: os) 76 183 (by kernel_rfl) (by kernel_rfl) (by kernel_rfl) (by kernel_rfl) (fun _ _ => rfl) ?_)
                    intro A16527 C16528 hS
                    refine EL.quick 2 [7, 8, 22, 23, 185] [(7, .pointer (some ⟨g9195, 0, none⟩)), (8, .pointer (some ⟨g9203, 0, none⟩)), (22, .int .i64 x15613), (23, .int .i64 x16457), (185, .bool (decide (x16457 < ((x13177.getD x15613.toNat []).length : Int))))] (by kernel_rfl) ?_
                    refine EL.done (by kernel_rfl) ?_
                    refine EQ.code ?_
                    refine EW.condP (o := (.tmp 185)) (x := Cd9.r.r.r.r.r.r.r.l.r.l.l.r.l.l.r.l.l.l.r.l) (y := Cd9.r.r.r.r.r.r.r.l.r.l.l.r.l.l.r.l.l.l.r.r) (x16457 < ((x13177.getD x15613.toNat []).length : Int)) (by kernel_rfl) (by kernel_rfl) (fun h16529 => ?_) (fun h16529 => ?_)
                    · rw [if_pos h16529] at H
                      refine EW.skip (by kernel_rfl) ?_
                      refine EQ.code ?_
                      refine EW.seq (x := Cd9.r.r.r.r.r.r.r.l.r.l.l.r.l.l.r.l.l.r.l) (y := Cd9.r.r.r.r.r.r.r.l.r.l.l.r.l.l.r.l.l.r.r) (by kernel_rfl) ?_
                      refine EW.block (x := Cd9.r.r.r.r.r.r.r.l.r.l.l.r.l.l.r.l.l.r.l.l) (id := 8) (by kernel_rfl) ?_
                      refine EW.seq (x := Cd9.r.r.r.r.r.r.r.l.r.l.l.r.l.l.r.l.l.r.l.l.l) (y := Cd9.r.r.r.r.r.r.r.l.r.l.l.r.l.l.r.l.l.r.l.l.r) (by kernel_rfl) ?_
                      refine EW.region (id := 42) (ops := Cd9.r.r.r.r.r.r.r.l.r.l.l.r.l.l.r.l.l.r.l.l.l.ops) (by kernel_rfl) ?_
                      refine EL.quick 6 [7, 8, 22, 23, 189, 194] [(7, .pointer (some ⟨g9195, 0, none⟩)), (8, .pointer (some ⟨g9203, 0, none⟩)), (22, .int .i64 x15613), (23, .int .i64 x16457), (189, .pointer (some ⟨g9195, 0, none⟩)), (194, .int .i32 (IntKind.i32.wrap (IntKind.i64.wrap ((IntKind.i64.wrap (x15613 * 65536)) + x16457))))] (by kernel_rfl) ?_
                      have hS : St B _ (Ass.box 95 g9195 [.slice A13181 x13180.length C13182, .slice A9198 t9194.length C9199] :: Ass.deep 76 69 kS69 A13181 C13182 x13180 :: Ass.own 3 (Kd.int .i64) A9198 C9199 t9194 :: Ass.own 69 kS69 A16527 C16528 (x13177.getD x15613.toNat []) :: Ass.box 75 g9203 [.slice A9204 t9201.length C9205, .slice (some ad16526) x13177.length C13179] :: Ass.own 3 (Kd.int .i64) A9204 C9205 t9201 :: Ass.holed 76 69 kS69 (some ad16526) C13179 x13177 x15613.toNat (A16527, (x13177.getD x15613.toNat []).length, C16528) :: os) (Ro.sl (Kd.int .i64) A9048 C9049 x9047 :: Ro.sl (Kd.int .i64) A9048 C9049 x9047 :: Ro.sl (Kd.int .i64) A9048 C9049 x9047 :: Ro.sl (Kd.int .i64) A8 C9 l7 :: Ro.sl kS65 A11 C12 l10 :: rs) := hS.re [6, 6, 6] [] rfl sub_self
                      obtain ⟨t16552, t16553, t16554, hc16555, H⟩ := b3_out H
                      refine EL.of (EO.callD 38 [.pointer (some ⟨g9195, 0, none⟩), .int .i32 (IntKind.i32.wrap (IntKind.i64.wrap ((IntKind.i64.wrap (x15613 * 65536)) + x16457)))] _ 195 (by kernel_rfl) (by kernel_rfl) (by kernel_rfl) (arena_Arena_Get.calls hc16555 hS) ?_)
                      rintro v w ⟨rfl, hS⟩
                      refine EL.quick 3 [7, 8, 22, 23, 196, 197] [(7, .pointer (some ⟨g9195, 0, none⟩)), (8, .pointer (some ⟨g9203, 0, none⟩)), (22, .int .i64 x15613), (23, .int .i64 x16457), (196, .agg #[.int .i64 t16552, .int .i32 t16553]), (197, .bool (t16554))] (by kernel_rfl) ?_
                      refine EL.of (EO.alloc hS 69 (.agg #[.int .i64 0, .int .i32 0]) [.int .i64 0, .int .i32 0] 24 (by kernel_rfl) (by kernel_rfl) (by kernel_rfl) (by kernel_rfl) (by first | rfl | kernel_rfl) ?_)
                      intro g16556 w hS
                      refine EL.of (EO.storeBox (os' := Ass.box 69 g16556 [.int .i64 t16552, .int .i32 t16553] :: Ass.box 95 g9195 [.slice A13181 x13180.length C13182, .slice A9198 t9194.length C9199] :: Ass.deep 76 69 kS69 A13181 C13182 x13180 :: Ass.own 3 (Kd.int .i64) A9198 C9199 t9194 :: Ass.own 69 kS69 A16527 C16528 (x13177.getD x15613.toNat []) :: Ass.box 75 g9203 [.slice A9204 t9201.length C9205, .slice (some ad16526) x13177.length C13179] :: Ass.own 3 (Kd.int .i64) A9204 C9205 t9201 :: Ass.holed 76 69 kS69 (some ad16526) C13179 x13177 x15613.toNat (A16527, (x13177.getD x15613.toNat []).length, C16528) :: os) hS 0 rfl 69 0 (.agg #[.int .i64 t16552, .int .i32 t16553]) [.int .i64 t16552, .int .i32 t16553] (by kernel_rfl) (by kernel_rfl) (by kernel_rfl) (by kernel_rfl) (by kernel_rfl) (by kernel_rfl) rfl rfl ?_)
                      intro w hS
                      refine EL.quick 1 [7, 8, 22, 23, 24, 25] [(7, .pointer (some ⟨g9195, 0, none⟩)), (8, .pointer (some ⟨g9203, 0, none⟩)), (22, .int .i64 x15613), (23, .int .i64 x16457), (24, .pointer (some ⟨g16556, 0, none⟩)), (25, .bool (t16554))] (by kernel_rfl) ?_
                      refine EL.done (by kernel_rfl) ?_
                      refine EQ.code ?_
                      refine EW.seq (x := Cd9.r.r.r.r.r.r.r.l.r.l.l.r.l.l.r.l.l.r.l.l.r.l) (y := Cd9.r.r.r.r.r.r.r.l.r.l.l.r.l.l.r.l.l.r.l.l.r.r) (by kernel_rfl) ?_
                      by_cases h16560 : t16554 = true
                      · rw [if_pos h16560] at H
                        obtain ⟨h16561, H⟩ := ite_in H
                        obtain ⟨ad16562, rfl⟩ := St.rd_some hS (Rd.own 4 69 rfl) h16561 h16529
                        have hS := hS.drew
                        refine EW.draw (B := B) (id := 43) (ops := Cd9.r.r.r.r.r.r.r.l.r.l.l.r.l.l.r.l.l.r.l.l.r.l.ops) [Ass.box 69 g16556 [.int .i64 t16552, .int .i32 t16553], Ass.box 95 g9195 [.slice A13181 x13180.length C13182, .slice A9198 t9194.length C9199], Ass.deep 76 69 kS69 A13181 C13182 x13180, Ass.own 3 (Kd.int .i64) A9198 C9199 t9194, Ass.own 69 kS69 (some ad16562) C16528 (x13177.getD x15613.toNat []), Ass.box 75 g9203 [.slice A9204 t9201.length C9205, .slice (some ad16526) x13177.length C13179], Ass.own 3 (Kd.int .i64) A9204 C9205 t9201, Ass.holed 76 69 kS69 (some ad16526) C13179 x13177 x15613.toNat ((some ad16562), (x13177.getD x15613.toNat []).length, C16528)] [Ro.sl (Kd.int .i64) A9048 C9049 x9047, Ro.sl (Kd.int .i64) A9048 C9049 x9047, Ro.sl (Kd.int .i64) A9048 C9049 x9047, Ro.sl (Kd.int .i64) A8 C9 l7, Ro.sl kS65 A11 C12 l10] (by kernel_rfl) (by kernel_rfl) ?_
                        have hN : Region.noSelect Cd9.r.r.r.r.r.r.r.l.r.l.l.r.l.l.r.l.l.r.l.l.r.l.ops = true := (by kernel_rfl)
                        have hF : freeAll Cd9.r.r.r.r.r.r.r.l.r.l.l.r.l.l.r.l.l.r.l.l.r.l.ops = true := (by kernel_rfl)
                        have hC : Core B [Ass.box 69 g16556 [.int .i64 t16552, .int .i32 t16553], Ass.box 95 g9195 [.slice A13181 x13180.length C13182, .slice A9198 t9194.length C9199], Ass.deep 76 69 kS69 A13181 C13182 x13180, Ass.own 3 (Kd.int .i64) A9198 C9199 t9194, Ass.own 69 kS69 (some ad16562) C16528 (x13177.getD x15613.toNat []), Ass.box 75 g9203 [.slice A9204 t9201.length C9205, .slice (some ad16526) x13177.length C13179], Ass.own 3 (Kd.int .i64) A9204 C9205 t9201, Ass.holed 76 69 kS69 (some ad16526) C13179 x13177 x15613.toNat ((some ad16562), (x13177.getD x15613.toNat []).length, C16528)] [Ro.sl (Kd.int .i64) A9048 C9049 x9047, Ro.sl (Kd.int .i64) A9048 C9049 x9047, Ro.sl (Kd.int .i64) A9048 C9049 x9047, Ro.sl (Kd.int .i64) A8 C9 l7, Ro.sl kS65 A11 C12 l10] _ := ⟨_, _, hS⟩
                        refine ED.quick hN hF hC [0, 1, 2] [7, 8, 22, 23, 24, 200] 13 [(7, .pointer (some ⟨g9195, 0, none⟩)), (8, .pointer (some ⟨g9203, 0, none⟩)), (22, .int .i64 x15613), (23, .int .i64 x16457), (24, .pointer (some ⟨g16556, 0, none⟩)), (200, .bool (!(t16554)))] #[true, true, true, false, false, false, false, false, false, false, false, false, false, false, false, false] (by kernel_rfl) (by kernel_rfl) ?_
                        refine ED.keep [7, 8, 22, 23, 24, 200] [(7, .pointer (some ⟨g9195, 0, none⟩)), (8, .pointer (some ⟨g9203, 0, none⟩)), (22, .int .i64 x15613), (23, .int .i64 x16457), (24, .pointer (some ⟨g16556, 0, none⟩)), (200, .bool (!(t16554)))] (by kernel_rfl) ?_
                        refine ED.as' [(7, .pointer (some ⟨g9195, 0, none⟩)), (8, .pointer (some ⟨g9203, 0, none⟩)), (22, .int .i64 x15613), (23, .int .i64 x16457), (24, .pointer (some ⟨g16556, 0, none⟩)), (200, .bool (false))] (by simp only [h16560, Bool.not_true, Bool.not_false]) ?_
                        refine ED.quick hN hF hC [4, 5, 6, 8, 11] [7, 8, 22, 23, 24, 200, 202, 203, 204, 206, 209] 8 [(7, .pointer (some ⟨g9195, 0, none⟩)), (8, .pointer (some ⟨g9203, 0, none⟩)), (22, .int .i64 x15613), (23, .int .i64 x16457), (24, .pointer (some ⟨g16556, 0, none⟩)), (200, .bool (false)), (202, .pointer (some ⟨g9203, 0, none⟩)), (203, .pointer (some ⟨g9203, 0, none⟩)), (204, .pointer (some ⟨g9203, 1, none⟩)), (206, .int .i64 x15613), (209, .int .i64 x16457)] #[true, true, true, false, true, true, true, false, true, false, false, true, false, false, false, false] (by kernel_rfl) (by kernel_rfl) ?_
                        refine ED.Y hN hF hC 3 7 #[true, true, true, true, true, true, true, false, true, false, false, true, false, false, false, false] (by kernel_rfl) (by kernel_rfl) rfl (fun _ _ _ hS => YO.loadBox hS 0 rfl 69 0 2 (.agg #[.int .i64 t16552, .int .i32 t16553]) 201 (by kernel_rfl) (by kernel_rfl) (by kernel_rfl) (by kernel_rfl)) ?_
                        refine ED.Y hN hF hC 7 6 #[true, true, true, true, true, true, true, true, true, false, false, true, false, false, false, false] (by kernel_rfl) (by kernel_rfl) rfl (fun _ _ _ hS => YO.loadBox hS 5 rfl 73 1 1 (.slice (some ad16526) x13177.length C13179) 205 (by kernel_rfl) (by kernel_rfl) (by kernel_rfl) (by kernel_rfl)) ?_
                        refine ED.Y hN hF hC 9 5 #[true, true, true, true, true, true, true, true, true, true, false, true, false, false, false, false] (by kernel_rfl) (by kernel_rfl) rfl (fun _ _ _ hS => YO.idx 73 1 ad16526 x13177.length C13179 .i64 x15613 207 (by kernel_rfl) (by kernel_rfl) (by kernel_rfl) (by kernel_rfl) h16525 h16091) ?_
                        refine ED.Y hN hF hC 10 4 #[true, true, true, true, true, true, true, true, true, true, true, true, false, false, false, false] (by kernel_rfl) (by kernel_rfl) rfl (fun _ _ _ hS => YO.loadHole hS 7 ad16526 (j := x15613) rfl h16525 76 208 (by kernel_rfl) (by kernel_rfl) (by kernel_rfl) (by kernel_rfl)) ?_
                        refine ED.Y hN hF hC 12 3 #[true, true, true, true, true, true, true, true, true, true, true, true, true, false, false, false] (by kernel_rfl) (by kernel_rfl) rfl (fun _ _ _ hS => YO.idx 76 2 ad16562 (x13177.getD x15613.toNat []).length C16528 .i64 x16457 210 (by kernel_rfl) (by kernel_rfl) (by kernel_rfl) (by kernel_rfl) h16561 h16529) ?_
                        refine ED.Y hN hF hC 13 2 #[true, true, true, true, true, true, true, true, true, true, true, true, true, true, false, false] (by kernel_rfl) (by kernel_rfl) rfl (fun _ _ _ hS => YO.loadEl hS kS69 ad16562 C16528 (x13177.getD x15613.toNat []) (Rd.own 4 69 rfl) zS69 encS69 encS69_of x16457 h16561 h16529 69 2 0 2 rfl (.agg #[.int .i64 (((x13177.getD x15613.toNat []).getD x16457.toNat zS69).f0), .int .i32 (((x13177.getD x15613.toNat []).getD x16457.toNat zS69).f1)]) 211 (by kernel_rfl) (by kernel_rfl) (by kernel_rfl) (by kernel_rfl)) ?_
                        refine ED.Y hN hF hC 14 1 #[true, true, true, true, true, true, true, true, true, true, true, true, true, true, true, false] (by kernel_rfl) (by kernel_rfl) rfl (fun _ _ _ hS => YO.eqAg .neq 69 (.tmp 201) (.tmp 211) #[.int .i64 t16552, .int .i32 t16553] #[.int .i64 (((x13177.getD x15613.toNat []).getD x16457.toNat zS69).f0), .int .i32 (((x13177.getD x15613.toNat []).getD x16457.toNat zS69).f1)] ((t16552 == (((x13177.getD x15613.toNat []).getD x16457.toNat zS69).f0)) && ((t16553 == (((x13177.getD x15613.toNat []).getD x16457.toNat zS69).f1)) && true)) (!(((t16552 == (((x13177.getD x15613.toNat []).getD x16457.toNat zS69).f0)) && ((t16553 == (((x13177.getD x15613.toNat []).getD x16457.toNat zS69).f1)) && true)))) 212 (by kernel_rfl) (by kernel_rfl) (by kernel_rfl) (by kernel_rfl) (by kernel_rfl) (.inr ⟨rfl, rfl⟩)) ?_
                        refine ED.quick hN hF hC [15] [7, 8, 22, 23, 201, 202, 203, 204, 205, 206, 207, 208, 209, 210, 211, 212, 213] 0 [(7, .pointer (some ⟨g9195, 0, none⟩)), (8, .pointer (some ⟨g9203, 0, none⟩)), (22, .int .i64 x15613), (23, .int .i64 x16457), (201, .agg #[.int .i64 t16552, .int .i32 t16553]), (202, .pointer (some ⟨g9203, 0, none⟩)), (203, .pointer (some ⟨g9203, 0, none⟩)), (204, .pointer (some ⟨g9203, 1, none⟩)), (205, .slice (some ad16526) x13177.length C13179), (206, .int .i64 x15613), (207, .pointer (some ((ad16526.add (x15613.toNat * 1)).add 0))), (208, .slice (some ad16562) (x13177.getD x15613.toNat []).length C16528), (209, .int .i64 x16457), (210, .pointer (some ((ad16562.add (x16457.toNat * 2)).add 0))), (211, .agg #[.int .i64 (((x13177.getD x15613.toNat []).getD x16457.toNat zS69).f0), .int .i32 (((x13177.getD x15613.toNat []).getD x16457.toNat zS69).f1)]), (212, .bool (!(((t16552 == (((x13177.getD x15613.toNat []).getD x16457.toNat zS69).f0)) && ((t16553 == (((x13177.getD x15613.toNat []).getD x16457.toNat zS69).f1)) && true))))), (213, .bool (!(((t16552 == (((x13177.getD x15613.toNat []).getD x16457.toNat zS69).f0)) && ((t16553 == (((x13177.getD x15613.toNat []).getD x16457.toNat zS69).f1)) && true)))))] #[true, true, true, true, true, true, true, true, true, true, true, true, true, true, true, true] (by kernel_rfl) (by kernel_rfl) ?_
                        refine ED.done (by kernel_rfl) ?_
                        refine EQ.code ?_
                        refine EW.condQ (b := !(((t16552 == (((x13177.getD x15613.toNat []).getD x16457.toNat zS69).f0)) && ((t16553 == (((x13177.getD x15613.toNat []).getD x16457.toNat zS69).f1)) && true)))) (o := (.tmp 213)) (x := Cd9.r.r.r.r.r.r.r.l.r.l.l.r.l.l.r.l.l.r.l.l.r.r.l) (y := Cd9.r.r.r.r.r.r.r.l.r.l.l.r.l.l.r.l.l.r.l.l.r.r.r) (((t16552 == (((x13177.getD x15613.toNat []).getD x16457.toNat zS69).f0)) && ((t16553 == (((x13177.getD x15613.toNat []).getD x16457.toNat zS69).f1)) && true)) = true) (false) (by kernel_rfl) (by kernel_rfl) ⟨fun h => (by rw [h] <;> rfl), fun h => (by rw [Bool.eq_false_iff.2 h] <;> rfl)⟩ (fun h16563 => ?_) (fun h16563 => ?_)
                        · rw [if_pos h16563] at H
                          refine EW.keep [7, 8, 22, 23, 201, 202, 203, 204, 205, 206, 207, 208, 209, 210, 211, 212] [(7, .pointer (some ⟨g9195, 0, none⟩)), (8, .pointer (some ⟨g9203, 0, none⟩)), (22, .int .i64 x15613), (23, .int .i64 x16457), (201, .agg #[.int .i64 t16552, .int .i32 t16553]), (202, .pointer (some ⟨g9203, 0, none⟩)), (203, .pointer (some ⟨g9203, 0, none⟩)), (204, .pointer (some ⟨g9203, 1, none⟩)), (205, .slice (some ad16526) x13177.length C13179), (206, .int .i64 x15613), (207, .pointer (some ((ad16526.add (x15613.toNat * 1)).add 0))), (208, .slice (some ad16562) (x13177.getD x15613.toNat []).length C16528), (209, .int .i64 x16457), (210, .pointer (some ((ad16562.add (x16457.toNat * 2)).add 0))), (211, .agg #[.int .i64 (((x13177.getD x15613.toNat []).getD x16457.toNat zS69).f0), .int .i32 (((x13177.getD x15613.toNat []).getD x16457.toNat zS69).f1)]), (212, .bool (!(((t16552 == (((x13177.getD x15613.toNat []).getD x16457.toNat zS69).f0)) && ((t16553 == (((x13177.getD x15613.toNat []).getD x16457.toNat zS69).f1)) && true)))))] (by kernel_rfl) ?_
                          refine EW.as' [(7, .pointer (some ⟨g9195, 0, none⟩)), (8, .pointer (some ⟨g9203, 0, none⟩)), (22, .int .i64 x15613), (23, .int .i64 x16457), (201, .agg #[.int .i64 t16552, .int .i32 t16553]), (202, .pointer (some ⟨g9203, 0, none⟩)), (203, .pointer (some ⟨g9203, 0, none⟩)), (204, .pointer (some ⟨g9203, 1, none⟩)), (205, .slice (some ad16526) x13177.length C13179), (206, .int .i64 x15613), (207, .pointer (some ((ad16526.add (x15613.toNat * 1)).add 0))), (208, .slice (some ad16562) (x13177.getD x15613.toNat []).length C16528), (209, .int .i64 x16457), (210, .pointer (some ((ad16562.add (x16457.toNat * 2)).add 0))), (211, .agg #[.int .i64 (((x13177.getD x15613.toNat []).getD x16457.toNat zS69).f0), .int .i32 (((x13177.getD x15613.toNat []).getD x16457.toNat zS69).f1)]), (212, .bool (false))] (by simp only [h16563, Bool.not_true, Bool.not_false]) ?_
                          refine EW.skip (by kernel_rfl) ?_
                          refine EQ.pop ?_
                          refine EQ.code ?_
                          refine EW.region (id := 41) (ops := Cd9.r.r.r.r.r.r.r.l.r.l.l.r.l.l.r.l.l.r.r.ops) (by kernel_rfl) ?_
                          refine EL.quick 3 [7, 8, 22, 23, 201, 202, 203, 204, 205, 206, 207, 208, 209, 210, 211, 212] [(7, .pointer (some ⟨g9195, 0, none⟩)), (8, .pointer (some ⟨g9203, 0, none⟩)), (22, .int .i64 x15613), (23, .int .i64 (IntKind.i64.wrap (x16457 + 1))), (201, .agg #[.int .i64 t16552, .int .i32 t16553]), (202, .pointer (some ⟨g9203, 0, none⟩)), (203, .pointer (some ⟨g9203, 0, none⟩)), (204, .pointer (some ⟨g9203, 1, none⟩)), (205, .slice (some ad16526) x13177.length C13179), (206, .int .i64 x15613), (207, .pointer (some ((ad16526.add (x15613.toNat * 1)).add 0))), (208, .slice (some ad16562) (x13177.getD x15613.toNat []).length C16528), (209, .int .i64 x16457), (210, .pointer (some ((ad16562.add (x16457.toNat * 2)).add 0))), (211, .agg #[.int .i64 (((x13177.getD x15613.toNat []).getD x16457.toNat zS69).f0), .int .i32 (((x13177.getD x15613.toNat []).getD x16457.toNat zS69).f1)]), (212, .bool (false))] (by kernel_rfl) ?_
                          refine EL.done (by kernel_rfl) ?_
                          refine EQ.to ?_
                          have hS := St.as (os' := Ass.box 69 g16556 [.int .i64 t16552, .int .i32 t16553] :: Ass.box 95 g9195 [.slice A13181 x13180.length C13182, .slice A9198 t9194.length C9199] :: Ass.deep 76 69 kS69 A13181 C13182 x13180 :: Ass.own 3 (Kd.int .i64) A9198 C9199 t9194 :: Ass.box 75 g9203 [.slice A9204 t9201.length C9205, .slice (some ad16526) x13177.length C13179] :: Ass.own 3 (Kd.int .i64) A9204 C9205 t9201 :: Ass.deep 76 69 kS69 (some ad16526) C13179 x13177 :: os) (St.close hS 4 6 rfl rfl rfl x13177 (set_getD _ _)) rfl
                          refine EQ.keep [7, 8, 22, 23] [(7, .pointer (some ⟨g9195, 0, none⟩)), (8, .pointer (some ⟨g9203, 0, none⟩)), (22, .int .i64 x15613), (23, .int .i64 (IntKind.i64.wrap (x16457 + 1)))] (by kernel_rfl) ?_
                          exact fun a ha => ⟨n, Nat.lt_succ_self n, IntKind.i64.wrap (x16457 + 1), ha, (hS.re [3, 3, 3, 6, 6, 6] [6] rfl (sub_cons 0 rfl (sub_cons 0 rfl (sub_cons 0 rfl (sub_cons 3 rfl (sub_cons 4 rfl (sub_tail (sub_tail (sub_tail (sub_tail (sub_tail (sub_self)))))))))))), H⟩
                        · rw [if_neg h16563] at H
                          refine EW.seq (x := Cd9.r.r.r.r.r.r.r.l.r.l.l.r.l.l.r.l.l.r.l.l.r.r.l.l) (y := Cd9.r.r.r.r.r.r.r.l.r.l.l.r.l.l.r.l.l.r.l.l.r.r.l.r) (by kernel_rfl) ?_
                          refine EW.region (id := 44) (ops := Cd9.r.r.r.r.r.r.r.l.r.l.l.r.l.l.r.l.l.r.l.l.r.r.l.l.ops) (by kernel_rfl) ?_
                          refine EL.quick 1 [4] [(4, .bool (false))] (by kernel_rfl) ?_
                          refine EL.done (by kernel_rfl) ?_
                          refine EQ.code ?_
                          refine EW.ret (by kernel_rfl) ?_
                          refine EQ.ret ?_
                          refine EQ.ret ?_
                          refine EQ.ret ?_
                          refine EQ.ret ?_
                          refine EQ.ret ?_
                          refine EQ.ret ?_
                          refine EQ.ret ?_
                          refine EQ.ret ?_
                          refine EQ.ret ?_
                          have hS := St.as (os' := Ass.box 69 g16556 [.int .i64 t16552, .int .i32 t16553] :: Ass.box 95 g9195 [.slice A13181 x13180.length C13182, .slice A9198 t9194.length C9199] :: Ass.deep 76 69 kS69 A13181 C13182 x13180 :: Ass.own 3 (Kd.int .i64) A9198 C9199 t9194 :: Ass.box 75 g9203 [.slice A9204 t9201.length C9205, .slice (some ad16526) x13177.length C13179] :: Ass.own 3 (Kd.int .i64) A9204 C9205 t9201 :: Ass.deep 76 69 kS69 (some ad16526) C13179 x13177 :: os) (St.close hS 4 6 rfl rfl rfl x13177 (set_getD _ _)) rfl
                          obtain rfl := Option.some.inj H
                          exact EQ.leave (.bool (false)) (by kernel_rfl) ⟨_, rfl, rfl, (hS.re [] [0, 0, 0, 0, 0, 0, 0] rfl (sub_tail (sub_tail (sub_tail (sub_self)))))⟩
                      · rw [if_neg h16560] at H
                        have hS := hS.drew
                        refine EW.draw (B := B) (id := 43) (ops := Cd9.r.r.r.r.r.r.r.l.r.l.l.r.l.l.r.l.l.r.l.l.r.l.ops) [Ass.box 69 g16556 [.int .i64 t16552, .int .i32 t16553], Ass.box 95 g9195 [.slice A13181 x13180.length C13182, .slice A9198 t9194.length C9199], Ass.deep 76 69 kS69 A13181 C13182 x13180, Ass.own 3 (Kd.int .i64) A9198 C9199 t9194, Ass.own 69 kS69 A16527 C16528 (x13177.getD x15613.toNat []), Ass.box 75 g9203 [.slice A9204 t9201.length C9205, .slice (some ad16526) x13177.length C13179], Ass.own 3 (Kd.int .i64) A9204 C9205 t9201, Ass.holed 76 69 kS69 (some ad16526) C13179 x13177 x15613.toNat (A16527, (x13177.getD x15613.toNat []).length, C16528)] [Ro.sl (Kd.int .i64) A9048 C9049 x9047, Ro.sl (Kd.int .i64) A9048 C9049 x9047, Ro.sl (Kd.int .i64) A9048 C9049 x9047, Ro.sl (Kd.int .i64) A8 C9 l7, Ro.sl kS65 A11 C12 l10] (by kernel_rfl) (by kernel_rfl) ?_
                        have hN : Region.noSelect Cd9.r.r.r.r.r.r.r.l.r.l.l.r.l.l.r.l.l.r.l.l.r.l.ops = true := (by kernel_rfl)
                        have hF : freeAll Cd9.r.r.r.r.r.r.r.l.r.l.l.r.l.l.r.l.l.r.l.l.r.l.ops = true := (by kernel_rfl)
                        have hC : Core B [Ass.box 69 g16556 [.int .i64 t16552, .int .i32 t16553], Ass.box 95 g9195 [.slice A13181 x13180.length C13182, .slice A9198 t9194.length C9199], Ass.deep 76 69 kS69 A13181 C13182 x13180, Ass.own 3 (Kd.int .i64) A9198 C9199 t9194, Ass.own 69 kS69 A16527 C16528 (x13177.getD x15613.toNat []), Ass.box 75 g9203 [.slice A9204 t9201.length C9205, .slice (some ad16526) x13177.length C13179], Ass.own 3 (Kd.int .i64) A9204 C9205 t9201, Ass.holed 76 69 kS69 (some ad16526) C13179 x13177 x15613.toNat (A16527, (x13177.getD x15613.toNat []).length, C16528)] [Ro.sl (Kd.int .i64) A9048 C9049 x9047, Ro.sl (Kd.int .i64) A9048 C9049 x9047, Ro.sl (Kd.int .i64) A9048 C9049 x9047, Ro.sl (Kd.int .i64) A8 C9 l7, Ro.sl kS65 A11 C12 l10] _ := ⟨_, _, hS⟩
                        refine ED.quick hN hF hC [0, 1, 2] [7, 8, 22, 23, 24, 200] 13 [(7, .pointer (some ⟨g9195, 0, none⟩)), (8, .pointer (some ⟨g9203, 0, none⟩)), (22, .int .i64 x15613), (23, .int .i64 x16457), (24, .pointer (some ⟨g16556, 0, none⟩)), (200, .bool (!(t16554)))] #[true, true, true, false, false, false, false, false, false, false, false, false, false, false, false, false] (by kernel_rfl) (by kernel_rfl) ?_
                        refine ED.keep [7, 8, 22, 23, 24, 200] [(7, .pointer (some ⟨g9195, 0, none⟩)), (8, .pointer (some ⟨g9203, 0, none⟩)), (22, .int .i64 x15613), (23, .int .i64 x16457), (24, .pointer (some ⟨g16556, 0, none⟩)), (200, .bool (!(t16554)))] (by kernel_rfl) ?_
                        refine ED.as' [(7, .pointer (some ⟨g9195, 0, none⟩)), (8, .pointer (some ⟨g9203, 0, none⟩)), (22, .int .i64 x15613), (23, .int .i64 x16457), (24, .pointer (some ⟨g16556, 0, none⟩)), (200, .bool (true))] (by simp only [(Bool.eq_false_iff.2 h16560), Bool.not_true, Bool.not_false]) ?_
                        refine ED.quick hN hF hC [3, 4, 5, 6, 7, 8, 9, 10, 11, 12, 13, 14, 15] [7, 8, 22, 23, 201, 202, 203, 204, 205, 206, 207, 208, 209, 210, 211, 212, 213] 0 [(7, .pointer (some ⟨g9195, 0, none⟩)), (8, .pointer (some ⟨g9203, 0, none⟩)), (22, .int .i64 x15613), (23, .int .i64 x16457), (201, undef), (202, undef), (203, undef), (204, undef), (205, undef), (206, undef), (207, undef), (208, undef), (209, undef), (210, undef), (211, undef), (212, undef), (213, .bool (true))] #[true, true, true, true, true, true, true, true, true, true, true, true, true, true, true, true] (by kernel_rfl) (by kernel_rfl) ?_
                        refine ED.done (by kernel_rfl) ?_
                        refine EQ.code ?_
                        refine EW.condT (o := (.tmp 213)) (x := Cd9.r.r.r.r.r.r.r.l.r.l.l.r.l.l.r.l.l.r.l.l.r.r.l) (y := Cd9.r.r.r.r.r.r.r.l.r.l.l.r.l.l.r.l.l.r.l.l.r.r.r) (by kernel_rfl) (by kernel_rfl) ?_
                        refine EW.seq (x := Cd9.r.r.r.r.r.r.r.l.r.l.l.r.l.l.r.l.l.r.l.l.r.r.l.l) (y := Cd9.r.r.r.r.r.r.r.l.r.l.l.r.l.l.r.l.l.r.l.l.r.r.l.r) (by kernel_rfl) ?_
                        refine EW.region (id := 44) (ops := Cd9.r.r.r.r.r.r.r.l.r.l.l.r.l.l.r.l.l.r.l.l.r.r.l.l.ops) (by kernel_rfl) ?_
                        refine EL.quick 1 [4] [(4, .bool (false))] (by kernel_rfl) ?_
                        refine EL.done (by kernel_rfl) ?_
                        refine EQ.code ?_
                        refine EW.ret (by kernel_rfl) ?_
                        refine EQ.ret ?_
                        refine EQ.ret ?_
                        refine EQ.ret ?_
                        refine EQ.ret ?_
                        refine EQ.ret ?_
                        refine EQ.ret ?_
                        refine EQ.ret ?_
                        refine EQ.ret ?_
                        refine EQ.ret ?_
                        have hS := St.as (os' := Ass.box 69 g16556 [.int .i64 t16552, .int .i32 t16553] :: Ass.box 95 g9195 [.slice A13181 x13180.length C13182, .slice A9198 t9194.length C9199] :: Ass.deep 76 69 kS69 A13181 C13182 x13180 :: Ass.own 3 (Kd.int .i64) A9198 C9199 t9194 :: Ass.box 75 g9203 [.slice A9204 t9201.length C9205, .slice (some ad16526) x13177.length C13179] :: Ass.own 3 (Kd.int .i64) A9204 C9205 t9201 :: Ass.deep 76 69 kS69 (some ad16526) C13179 x13177 :: os) (St.close hS 4 6 rfl rfl rfl x13177 (set_getD _ _)) rfl
                        obtain rfl := Option.some.inj H
                        exact EQ.leave (.bool (false)) (by kernel_rfl) ⟨_, rfl, rfl, (hS.re [] [0, 0, 0, 0, 0, 0, 0] rfl (sub_tail (sub_tail (sub_tail (sub_self)))))⟩
                    · rw [if_neg h16529] at H
                      refine EW.exit (id := 7) (by kernel_rfl) ?_
                      refine EQ.exitCode ?_
                      refine EQ.exitTo ?_
                      refine EQ.exitHere ?_
                      refine EQ.pop ?_
                      refine EQ.to ?_
                      have hS := St.as (os' := Ass.box 75 g9203 [.slice A9204 t9201.length C9205, .slice (some ad16526) x13177.length C13179] :: Ass.own 3 (Kd.int .i64) A9204 C9205 t9201 :: Ass.deep 76 69 kS69 (some ad16526) C13179 x13177 :: Ass.box 95 g9195 [.slice A13181 x13180.length C13182, .slice A9198 t9194.length C9199] :: Ass.deep 76 69 kS69 A13181 C13182 x13180 :: Ass.own 3 (Kd.int .i64) A9198 C9199 t9194 :: os) (St.close hS 0 2 rfl rfl rfl x13177 (set_getD _ _)) rfl
                      refine EQ.keep [7, 8, 22] [(7, .pointer (some ⟨g9195, 0, none⟩)), (8, .pointer (some ⟨g9203, 0, none⟩)), (22, .int .i64 x15613)] (by kernel_rfl) ?_
                      exact fun a ha => ⟨ha, (hS.re [5, 5, 5, 5, 5, 5] [] rfl (sub_cons 0 rfl (sub_cons 0 rfl (sub_cons 0 rfl (sub_cons 3 rfl (sub_cons 4 rfl (sub_tail (sub_tail (sub_tail (sub_tail (sub_tail (sub_self)))))))))))), H⟩
                · obtain ⟨ha, hS, H⟩ := hI
                  rw [hj16406] at H
                  (try dsimp only at H)
                  refine EW.at ?_ a ha
                  clear ha a
                  refine EW.region (id := 38) (ops := Cd9.r.r.r.r.r.r.r.l.r.l.l.r.r.ops) (by kernel_rfl) ?_
                  refine EL.quick 3 [7, 8, 22] [(7, .pointer (some ⟨g9195, 0, none⟩)), (8, .pointer (some ⟨g9203, 0, none⟩)), (22, .int .i64 (IntKind.i64.wrap (x15613 + 1)))] (by kernel_rfl) ?_
                  refine EL.done (by kernel_rfl) ?_
                  refine EQ.to ?_
                  refine EQ.keep [7, 8, 22] [(7, .pointer (some ⟨g9195, 0, none⟩)), (8, .pointer (some ⟨g9203, 0, none⟩)), (22, .int .i64 (IntKind.i64.wrap (x15613 + 1)))] (by kernel_rfl) ?_
                  exact fun a ha => ⟨n, Nat.lt_succ_self n, IntKind.i64.wrap (x15613 + 1), ha, (hS.re [5, 5, 5, 5, 5, 5] [] rfl (sub_cons 0 rfl (sub_cons 0 rfl (sub_cons 0 rfl (sub_cons 3 rfl (sub_cons 4 rfl (sub_tail (sub_tail (sub_tail (sub_tail (sub_tail (sub_self)))))))))))), H⟩
              · rw [if_neg h16091] at H
                refine EW.exit (id := 5) (by kernel_rfl) ?_
                refine EQ.exitCode ?_
                refine EQ.exitTo ?_
                refine EQ.exitHere ?_
                refine EQ.code ?_
                refine EW.seq (x := Cd9.r.r.r.r.r.r.r.r.l) (y := Cd9.r.r.r.r.r.r.r.r.r) (by kernel_rfl) ?_
                refine EW.region (id := 45) (ops := Cd9.r.r.r.r.r.r.r.r.l.ops) (by kernel_rfl) ?_
                refine EL.quick 1 [4] [(4, .bool (true))] (by kernel_rfl) ?_
                refine EL.done (by kernel_rfl) ?_
                refine EQ.code ?_
                refine EW.ret (by kernel_rfl) ?_
                obtain rfl := Option.some.inj H
                exact EQ.leave (.bool (true)) (by kernel_rfl) ⟨_, rfl, rfl, (hS.re [] [0, 0, 0, 0, 0, 0] rfl (sub_tail (sub_tail (sub_tail (sub_self)))))⟩
  · rw [if_neg h8779] at H
    refine EW.seq (x := Cd9.r.l.r.l.l) (y := Cd9.r.l.r.l.r) (by kernel_rfl) ?_
    refine EW.region (id := 2) (ops := Cd9.r.l.r.l.l.ops) (by kernel_rfl) ?_
    refine EL.quick 1 [4] [(4, .bool (false))] (by kernel_rfl) ?_
    refine EL.done (by kernel_rfl) ?_
    refine EQ.code ?_
    refine EW.ret (by kernel_rfl) ?_
    refine EQ.ret ?_
    obtain rfl := Option.some.inj H
    exact EQ.leave (.bool (false)) (by kernel_rfl) ⟨_, rfl, rfl, (hS.re [] [] rfl (sub_self))⟩

def okS65 (s : S65) : Prop := ((Lit.int .u8 s.f0).wf = true) ∧ ((Lit.int .u8 s.f1).wf = true) ∧ ((Lit.int .u8 s.f2).wf = true) ∧ ((Lit.int .u8 s.f3).wf = true) ∧ ((Lit.int .i32 s.f4).wf = true) ∧ ((Lit.int .i32 s.f5).wf = true) ∧ True
theorem oS65 : Opens Try.prog 65 kS65 okS65 := Opens.struct (fun s : S65 => (s.f0, s.f1, s.f2, s.f3, s.f4, s.f5, ())) (fun a => ⟨a.1, a.2.1, a.2.2.1, a.2.2.2.1, a.2.2.2.2.1, a.2.2.2.2.2.1⟩) (fun _ => rfl) Try.underlying65 (OpensF.cons (Opens.int Try.underlying5) (OpensF.cons (Opens.int Try.underlying5) (OpensF.cons (Opens.int Try.underlying5) (OpensF.cons (Opens.int Try.underlying5) (OpensF.cons (Opens.int Try.underlying21) (OpensF.cons (Opens.int Try.underlying21) OpensF.nil rfl (by kernel_rfl)) rfl (by kernel_rfl)) rfl (by kernel_rfl)) rfl (by kernel_rfl)) rfl (by kernel_rfl)) rfl (by kernel_rfl)) (by kernel_rfl)
def confidantlaw12_ArenaPlays.Pure : Prop := ∀ (l7 : List Int) (l10 : List S65), l7.length * 8 ≤ 140737488351232 → (∀ x ∈ l7, (Lit.int .i64 x).wf = true) → l10.length * 12 ≤ 140737488351232 → (∀ x ∈ l10, okS65 x) → ∃ K, confidantlaw12_ArenaPlays.f K l7 l10 = some true

end Go.Proofs.Ytifnjijlbcacoaa.G
