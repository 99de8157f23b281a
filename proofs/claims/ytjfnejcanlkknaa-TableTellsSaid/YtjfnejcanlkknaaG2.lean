import Derived.Test.YtjfnejcanlkknaaG1
namespace Go.Proofs.Ytjfnejcanlkknaa.G
open Go Go.Fw Go.RowKit Go.Proofs
set_option linter.unusedVariables false
set_option linter.unusedSimpArgs false

/-! ### confidant/confidantlaw18.TableTurns: function 9 -/
def confidantlaw18_TableTurns.l1 (K : Nat) (x1094 : List Int) (a402 : Int) (a403 : Int) (j1261 : Int → Option Bool) : Nat → Int → Int → Option Bool
  | 0, _, _ => none
  | n + 1, x1270, x1271 => if x1271 < 4 then (b1 (table_Slots.f K x1094 x1271 (IntKind.i64.wrap a402) (IntKind.i64.wrap ((IntKind.i64.wrap a402) + (IntKind.i64.wrap a403)))) fun (t1286 : Int) => (confidantlaw18_TableTurns.l1 K x1094 a402 a403 j1261 n (IntKind.i64.wrap (x1270 + t1286)) (IntKind.i64.wrap (x1271 + 1)))) else (j1261 x1270)
def confidantlaw18_TableTurns.l0 (K : Nat) (l399 : List Int) (j1099 : (List Int) → Option Bool) : Nat → (List Int) → Int → Option Bool
  | 0, _, _ => none
  | n + 1, x1158, x1162 => if x1162 < (l399.length : Int) then (if 0 ≤ x1162 then (lt ([IntKind.i64.wrap (Int.tmod (l399.getD x1162.toNat 0) 4)] : List Int) fun l1203 => (if (x1158.length + l1203.length) * 8 ≤ 140737488355328 then (lt (x1158 ++ l1203) fun l1205 => (confidantlaw18_TableTurns.l0 K l399 j1099 n l1205 (IntKind.i64.wrap (x1162 + 1)))) else none)) else none) else (j1099 x1158)
def confidantlaw18_TableTurns.f (K : Nat) (l399 : List Int) (a402 : Int) (a403 : Int) : Option Bool := b1 (confidantlaw18_known.f K) fun (t863 : Bool) => (if t863 = true then (lt (fun (x874 : Bool) => (if x874 = true then (some true) else (lt (fun (x1094 : List Int) => (lt (fun (x1260 : Int) => (b1 (table_At.f K x1094 (IntKind.i64.wrap a402)) fun (t1288 : Int) => (b1 (table_At.f K x1094 (IntKind.i64.wrap ((IntKind.i64.wrap a402) + (IntKind.i64.wrap ((IntKind.i64.wrap a403) * (x1094.length : Int)))))) fun (t1290 : Int) => (if t1288 = t1290 then (b1 (table_At.f K x1094 (IntKind.i64.wrap a402)) fun (t1293 : Int) => (if (x1094.length : Int) = 0 then none else (if 0 ≤ (Int.tmod (IntKind.i64.wrap a402) (x1094.length : Int)) then (if (Int.tmod (IntKind.i64.wrap a402) (x1094.length : Int)) < (x1094.length : Int) then (if t1293 = (x1094.getD (Int.tmod (IntKind.i64.wrap a402) (x1094.length : Int)).toNat 0) then (if x1260 = (IntKind.i64.wrap a403) then (b1 (table_Slots.f K x1094 0 (IntKind.i64.wrap ((IntKind.i64.wrap a402) + 1)) (IntKind.i64.wrap a402)) fun (t1301 : Int) => (if t1301 = 0 then (b1 (table_At.f K x1094 (IntKind.i64.wrap (0 - (IntKind.i64.wrap a402)))) fun (t1304 : Int) => (if (0 : Int) < (x1094.length : Int) then (some (decide (t1304 = (x1094.getD (0 : Int).toNat 0)))) else none)) else (some false))) else (some false)) else (some false)) else none) else none))) else (some false))))) fun j1261 => (confidantlaw18_TableTurns.l1 K x1094 a402 a403 j1261 K 0 0))) fun j1099 => (confidantlaw18_TableTurns.l0 K l399 j1099 K ([] : List Int) 0)))) fun j875 => (if (l399.length : Int) > 64 then (j875 true) else (j875 (decide ((l399.length : Int) = 0))))) else (some false))
set_option maxRecDepth 100000 in
theorem confidantlaw18_TableTurns.calls {K : Nat} {l399 : List Int} {a402 : Int} {a403 : Int} {A400 : Option Addr} {C401 : Nat} {x855 : Bool} {B w : World} {os : List Ass} {rs : List Ro} (H : confidantlaw18_TableTurns.f K l399 a402 a403 = some x855) (hS : St B w (os) (Ro.sl (Kd.int .u8) A400 C401 l399 :: rs)) :
    Calls Try.prog 9 [.slice A400 l399.length C401, .int .u16 a402, .int .u8 a403].toArray w (fun en w' => ∃ v, en = .returned v ∧ v = .bool (x855) ∧ St B w' (os) (Ro.sl (Kd.int .u8) A400 C401 l399 :: rs)) := by
  unfold confidantlaw18_TableTurns.f at H
  refine calls_of_EW (args := [.slice A400 l399.length C401, .int .u16 a402, .int .u8 a403]) (c := C9) 103 Try.func9 (by kernel_rfl) (by kernel_rfl) (by kernel_rfl) ?_
  refine EW.seq (x := C9.l) (y := C9.r) (by kernel_rfl) ?_
  refine EW.region (id := 0) (ops := C9.l.ops) (by kernel_rfl) ?_
  refine EL.quick 1 [0, 1, 2] [(0, .slice A400 l399.length C401), (1, .int .u16 a402), (2, .int .u8 a403)] (by kernel_rfl) ?_
  refine EL.done (by kernel_rfl) ?_
  refine EQ.code ?_
  refine EW.seq (x := C9.r.l) (y := C9.r.r) (by kernel_rfl) ?_
  refine EW.seq (x := C9.r.l.l) (y := C9.r.l.r) (by kernel_rfl) ?_
  refine EW.region (id := 1) (ops := C9.r.l.l.ops) (by kernel_rfl) ?_
  obtain ⟨t863, hc864, H⟩ := b1_out H
  refine EL.of (EO.callD 31 [] _ 12 (by kernel_rfl) (by kernel_rfl) (by kernel_rfl) (confidantlaw18_known.calls hc864 hS) ?_)
  rintro v w ⟨rfl, hS⟩
  refine EL.quick 1 [0, 1, 2, 13] [(0, .slice A400 l399.length C401), (1, .int .u16 a402), (2, .int .u8 a403), (13, .bool (!(t863)))] (by kernel_rfl) ?_
  refine EL.done (by kernel_rfl) ?_
  refine EQ.code ?_
  refine EW.condQ (b := !(t863)) (o := (.tmp 13)) (x := C9.r.l.r.l) (y := C9.r.l.r.r) (t863 = true) (false) (by kernel_rfl) (by kernel_rfl) (by constructor <;> intro h <;> simp [h]) (fun h865 => ?_) (fun h865 => ?_)
  · rw [if_pos h865] at H
    refine EW.skip (by kernel_rfl) ?_
    refine EQ.code ?_
    refine EW.seq (x := C9.r.r.l) (y := C9.r.r.r) (by kernel_rfl) ?_
    obtain ⟨j875, hj875, H⟩ := lt_out H
    refine EW.cut (x := C9.r.r.l.l) (y := C9.r.r.l.r) (fun a w => ∃ x874 : Bool, Sat 103 [(0, .slice A400 l399.length C401), (1, .int .u16 a402), (2, .int .u8 a403), (21, .bool (x874))] a ∧ St B w (os) (Ro.sl (Kd.int .u8) A400 C401 l399 :: rs) ∧ j875 x874 = some x855) (by kernel_rfl) ?_ (fun a w hI => ?_)
    · refine EW.region (id := 3) (ops := C9.r.r.l.l.ops) (by kernel_rfl) ?_
      refine EL.quick 4 [0, 1, 2, 17] [(0, .slice A400 l399.length C401), (1, .int .u16 a402), (2, .int .u8 a403), (17, .bool (decide ((l399.length : Int) > 64)))] (by kernel_rfl) ?_
      by_cases h876 : (l399.length : Int) > 64
      · rw [if_pos h876] at H
        refine EL.keep [0, 1, 2, 17] [(0, .slice A400 l399.length C401), (1, .int .u16 a402), (2, .int .u8 a403), (17, .bool (decide ((l399.length : Int) > 64)))] (by kernel_rfl) ?_
        refine EL.as' [(0, .slice A400 l399.length C401), (1, .int .u16 a402), (2, .int .u8 a403), (17, .bool (true))] (by simp only [dec_t h876, Bool.not_true, Bool.not_false]) ?_
        refine EL.quick 4 [0, 1, 2, 21] [(0, .slice A400 l399.length C401), (1, .int .u16 a402), (2, .int .u8 a403), (21, .bool (true))] (by kernel_rfl) ?_
        refine EL.done (by kernel_rfl) ?_
        refine EQ.to ?_
        refine EQ.keep [0, 1, 2, 21] [(0, .slice A400 l399.length C401), (1, .int .u16 a402), (2, .int .u8 a403), (21, .bool (true))] (by kernel_rfl) ?_
        exact fun a ha => ⟨true, ha, (hS.re [] [] rfl (sub_cons 0 rfl (sub_tail (sub_self)))), H⟩
      · rw [if_neg h876] at H
        refine EL.keep [0, 1, 2, 17] [(0, .slice A400 l399.length C401), (1, .int .u16 a402), (2, .int .u8 a403), (17, .bool (decide ((l399.length : Int) > 64)))] (by kernel_rfl) ?_
        refine EL.as' [(0, .slice A400 l399.length C401), (1, .int .u16 a402), (2, .int .u8 a403), (17, .bool (false))] (by simp only [dec_f h876, Bool.not_true, Bool.not_false]) ?_
        refine EL.quick 4 [0, 1, 2, 21] [(0, .slice A400 l399.length C401), (1, .int .u16 a402), (2, .int .u8 a403), (21, .bool (decide ((l399.length : Int) = 0)))] (by kernel_rfl) ?_
        refine EL.done (by kernel_rfl) ?_
        refine EQ.to ?_
        refine EQ.keep [0, 1, 2, 21] [(0, .slice A400 l399.length C401), (1, .int .u16 a402), (2, .int .u8 a403), (21, .bool (decide ((l399.length : Int) = 0)))] (by kernel_rfl) ?_
        exact fun a ha => ⟨decide ((l399.length : Int) = 0), ha, (hS.re [] [] rfl (sub_cons 0 rfl (sub_tail (sub_self)))), H⟩
    · obtain ⟨x874, ha, hS, H⟩ := hI
      rw [hj875] at H
      (try dsimp only at H)
      refine EW.at ?_ a ha
      clear ha a
      refine EW.condP' (o := (.tmp 21)) (x := C9.r.r.l.r.l) (y := C9.r.r.l.r.r) (x874) (by kernel_rfl) (by kernel_rfl) (fun h877 => ?_) (fun h877 => ?_)
      · rw [if_pos h877] at H
        refine EW.seq (x := C9.r.r.l.r.l.l) (y := C9.r.r.l.r.l.r) (by kernel_rfl) ?_
        refine EW.region (id := 4) (ops := C9.r.r.l.r.l.l.ops) (by kernel_rfl) ?_
        refine EL.quick 1 [6] [(6, .bool (true))] (by kernel_rfl) ?_
        refine EL.done (by kernel_rfl) ?_
        refine EQ.code ?_
        refine EW.ret (by kernel_rfl) ?_
        refine EQ.ret ?_
        obtain rfl := Option.some.inj H
        exact EQ.leave (.bool (true)) (by kernel_rfl) ⟨_, rfl, rfl, (hS.re [] [] rfl (sub_self))⟩
      · rw [if_neg h877] at H
        refine EW.skip (by kernel_rfl) ?_
        refine EQ.code ?_
        refine EW.seq (x := C9.r.r.r.l) (y := C9.r.r.r.r) (by kernel_rfl) ?_
        refine EW.region (id := 5) (ops := C9.r.r.r.l.ops) (by kernel_rfl) ?_
        refine EL.quick 1 [0, 1, 2, 7] [(0, .slice A400 l399.length C401), (1, .int .u16 a402), (2, .int .u8 a403), (7, .slice none ([] : List Int).length 0)] (by kernel_rfl) ?_
        refine EL.done (by kernel_rfl) ?_
        refine EQ.code ?_
        obtain ⟨j1099, hj1099, H⟩ := lt_out H
        refine EW.cut (x := C9.r.r.r.r.l) (y := C9.r.r.r.r.r) (fun a w => ∃ x1094 : List Int, ∃ A1095 : Option Addr, ∃ C1096 : Nat, Sat 103 [(1, .int .u16 a402), (2, .int .u8 a403), (7, .slice A1095 x1094.length C1096)] a ∧ St B w (Ass.own 3 (Kd.int .i64) A1095 C1096 x1094 :: os) (Ro.sl (Kd.int .u8) A400 C401 l399 :: rs) ∧ j1099 x1094 = some x855) (by kernel_rfl) ?_ (fun a w hI => ?_)
        · refine EW.seq (x := C9.r.r.r.r.l.l) (y := C9.r.r.r.r.l.r) (by kernel_rfl) ?_
          refine EW.region (id := 6) (ops := C9.r.r.r.r.l.l.ops) (by kernel_rfl) ?_
          refine EL.quick 1 [0, 1, 2, 7, 8] [(0, .slice A400 l399.length C401), (1, .int .u16 a402), (2, .int .u8 a403), (7, .slice none ([] : List Int).length 0), (8, .int .i64 0)] (by kernel_rfl) ?_
          refine EL.done (by kernel_rfl) ?_
          refine EQ.code ?_
          refine EW.block (x := C9.r.r.r.r.l.r.l) (id := 0) (by kernel_rfl) ?_
          have hS := St.nilO hS 3 (Kd.int .i64)
          refine EW.loop (x := C9.r.r.r.r.l.r.l.l) (fun n a w => ∃ x1158 : List Int, ∃ x1162 : Int, ∃ A1159 : Option Addr, ∃ C1160 : Nat, Sat 103 [(0, .slice A400 l399.length C401), (1, .int .u16 a402), (2, .int .u8 a403), (7, .slice A1159 x1158.length C1160), (8, .int .i64 x1162)] a ∧ St B w (Ass.own 3 (Kd.int .i64) A1159 C1160 x1158 :: os) (Ro.sl (Kd.int .u8) A400 C401 l399 :: rs) ∧ confidantlaw18_TableTurns.l0 K l399 j1099 n x1158 x1162 = some x855) K (by kernel_rfl) ?_ (fun n a w hI => ?_)
          · refine EQ.keep [0, 1, 2, 7, 8] [(0, .slice A400 l399.length C401), (1, .int .u16 a402), (2, .int .u8 a403), (7, .slice none ([] : List Int).length 0), (8, .int .i64 0)] (by kernel_rfl) ?_
            exact fun a ha => ⟨([] : List Int), 0, none, 0, ha, (hS.re [0] [] rfl (sub_cons 0 rfl (sub_tail (sub_self)))), H⟩
          · obtain ⟨x1158, x1162, A1159, C1160, ha, hS, H⟩ := hI
            obtain _ | n := n
            · simp [confidantlaw18_TableTurns.l0] at H
            rw [confidantlaw18_TableTurns.l0.eq_2] at H
            refine EW.at ?_ a ha
            clear ha a
            refine EW.seq (x := C9.r.r.r.r.l.r.l.l.l) (y := C9.r.r.r.r.l.r.l.l.r) (by kernel_rfl) ?_
            refine EW.seq (x := C9.r.r.r.r.l.r.l.l.l.l) (y := C9.r.r.r.r.l.r.l.l.l.r) (by kernel_rfl) ?_
            refine EW.region (id := 7) (ops := C9.r.r.r.r.l.r.l.l.l.l.ops) (by kernel_rfl) ?_
            refine EL.quick 4 [0, 1, 2, 7, 8, 25] [(0, .slice A400 l399.length C401), (1, .int .u16 a402), (2, .int .u8 a403), (7, .slice A1159 x1158.length C1160), (8, .int .i64 x1162), (25, .bool (decide (x1162 < (l399.length : Int))))] (by kernel_rfl) ?_
            refine EL.done (by kernel_rfl) ?_
            refine EQ.code ?_
            refine EW.condP (o := (.tmp 25)) (x := C9.r.r.r.r.l.r.l.l.l.r.l) (y := C9.r.r.r.r.l.r.l.l.l.r.r) (x1162 < (l399.length : Int)) (by kernel_rfl) (by kernel_rfl) (fun h1191 => ?_) (fun h1191 => ?_)
            · rw [if_pos h1191] at H
              refine EW.skip (by kernel_rfl) ?_
              refine EQ.code ?_
              refine EW.seq (x := C9.r.r.r.r.l.r.l.l.r.l) (y := C9.r.r.r.r.l.r.l.l.r.r) (by kernel_rfl) ?_
              refine EW.block (x := C9.r.r.r.r.l.r.l.l.r.l.l) (id := 1) (by kernel_rfl) ?_
              refine EW.region (id := 9) (ops := C9.r.r.r.r.l.r.l.l.r.l.l.ops) (by kernel_rfl) ?_
              refine EL.quick 3 [0, 1, 2, 8, 28, 29, 30] [(0, .slice A400 l399.length C401), (1, .int .u16 a402), (2, .int .u8 a403), (8, .int .i64 x1162), (28, .slice A1159 x1158.length C1160), (29, .slice A400 l399.length C401), (30, .int .i64 x1162)] (by kernel_rfl) ?_
              obtain ⟨h1200, H⟩ := ite_in H
              obtain ⟨ad1201, rfl⟩ := St.rd_some hS (Rd.ro 0 rfl) h1200 h1191
              refine EL.of (EO.Y (YO.idx 22 1 ad1201 l399.length C401 .i64 x1162 31 (by kernel_rfl) (by kernel_rfl) (by kernel_rfl) (by kernel_rfl) h1200 h1191) ?_)
              refine EL.of (EO.Y (YO.loadEl hS (Kd.int .u8) ad1201 C401 l399 (Rd.ro 0 rfl) 0 (encI .u8) encI_of x1162 h1200 h1191 5 1 0 1 rfl (.int .u8 (l399.getD x1162.toNat 0)) 32 (by kernel_rfl) (by kernel_rfl) (by kernel_rfl) (by kernel_rfl)) ?_)
              refine EL.quick 2 [0, 1, 2, 8, 28, 34] [(0, .slice (some ad1201) l399.length C401), (1, .int .u16 a402), (2, .int .u8 a403), (8, .int .i64 x1162), (28, .slice A1159 x1158.length C1160), (34, .int .i64 (IntKind.i64.wrap (Int.tmod (l399.getD x1162.toNat 0) 4)))] (by kernel_rfl) ?_
              obtain ⟨l1203, hl1203, H⟩ := lt_out H
              refine EL.of (EO.lit hS (Kd.int .i64) 3 24 1 #[(0, .int .i64 (IntKind.i64.wrap (Int.tmod (l399.getD x1162.toNat 0) 4)))] [.int .i64 (IntKind.i64.wrap (Int.tmod (l399.getD x1162.toNat 0) 4))] l1203 35 (by kernel_rfl) (by kernel_rfl) (by kernel_rfl) (fun _ => (by kernel_rfl)) (by rw [hl1203]; rfl) (by kernel_rfl) (fun w G hr => (by rw [hl1203]; exact ⟨[.int .i64 (IntKind.i64.wrap (Int.tmod (l399.getD x1162.toNat 0) 4))], [], rfl, rfl, rfl⟩)) ?_)
              intro g1202 w hS
              obtain ⟨h1204, H⟩ := ite_in H
              obtain ⟨l1205, hl1205, H⟩ := lt_out H
              refine EL.of (EO.append hS 24 24 3 8 1 (Kd.int .i64) A1159 C1160 x1158 rfl (some ⟨g1202, 0, none⟩) 1 l1203 (Rd.own 0 3 rfl) l1205 hl1205 (fun A1206 C1207 => Ass.own 3 (Kd.int .i64) (some ⟨g1202, 0, none⟩) 1 l1203 :: Ass.own 3 (Kd.int .i64) A1206 C1207 l1205 :: os) 36 (by kernel_rfl) (by kernel_rfl) (by kernel_rfl) (by kernel_rfl) h1204 (fun _ _ => rfl) ?_)
              intro A1206 C1207 w hS
              refine EL.quick 1 [0, 1, 2, 7, 8] [(0, .slice (some ad1201) l399.length C401), (1, .int .u16 a402), (2, .int .u8 a403), (7, .slice A1206 l1205.length C1207), (8, .int .i64 x1162)] (by kernel_rfl) ?_
              refine EL.done (by kernel_rfl) ?_
              refine EQ.pop ?_
              refine EQ.code ?_
              refine EW.region (id := 8) (ops := C9.r.r.r.r.l.r.l.l.r.r.ops) (by kernel_rfl) ?_
              refine EL.quick 3 [0, 1, 2, 7, 8] [(0, .slice (some ad1201) l399.length C401), (1, .int .u16 a402), (2, .int .u8 a403), (7, .slice A1206 l1205.length C1207), (8, .int .i64 (IntKind.i64.wrap (x1162 + 1)))] (by kernel_rfl) ?_
              refine EL.done (by kernel_rfl) ?_
              refine EQ.to ?_
              refine EQ.keep [0, 1, 2, 7, 8] [(0, .slice (some ad1201) l399.length C401), (1, .int .u16 a402), (2, .int .u8 a403), (7, .slice A1206 l1205.length C1207), (8, .int .i64 (IntKind.i64.wrap (x1162 + 1)))] (by kernel_rfl) ?_
              exact fun a ha => ⟨n, Nat.lt_succ_self n, l1205, IntKind.i64.wrap (x1162 + 1), A1206, C1207, ha, (hS.re [1] [1] rfl (sub_cons 0 rfl (sub_tail (sub_self)))), H⟩
            · rw [if_neg h1191] at H
              refine EW.exit (id := 0) (by kernel_rfl) ?_
              refine EQ.exitCode ?_
              refine EQ.exitTo ?_
              refine EQ.exitHere ?_
              refine EQ.to ?_
              refine EQ.keep [1, 2, 7] [(1, .int .u16 a402), (2, .int .u8 a403), (7, .slice A1159 x1158.length C1160)] (by kernel_rfl) ?_
              exact fun a ha => ⟨x1158, A1159, C1160, ha, (hS.re [0] [] rfl (sub_cons 0 rfl (sub_tail (sub_self)))), H⟩
        · obtain ⟨x1094, A1095, C1096, ha, hS, H⟩ := hI
          rw [hj1099] at H
          (try dsimp only at H)
          refine EW.at ?_ a ha
          clear ha a
          refine EW.seq (x := C9.r.r.r.r.r.l) (y := C9.r.r.r.r.r.r) (by kernel_rfl) ?_
          refine EW.region (id := 10) (ops := C9.r.r.r.r.r.l.ops) (by kernel_rfl) ?_
          refine EL.quick 3 [2, 7, 9] [(2, .int .u8 a403), (7, .slice A1095 x1094.length C1096), (9, .int .i64 (IntKind.i64.wrap a402))] (by kernel_rfl) ?_
          refine EL.done (by kernel_rfl) ?_
          refine EQ.code ?_
          refine EW.seq (x := C9.r.r.r.r.r.r.l) (y := C9.r.r.r.r.r.r.r) (by kernel_rfl) ?_
          refine EW.region (id := 11) (ops := C9.r.r.r.r.r.r.l.ops) (by kernel_rfl) ?_
          refine EL.quick 1 [2, 7, 9, 10] [(2, .int .u8 a403), (7, .slice A1095 x1094.length C1096), (9, .int .i64 (IntKind.i64.wrap a402)), (10, .int .i64 0)] (by kernel_rfl) ?_
          refine EL.done (by kernel_rfl) ?_
          refine EQ.code ?_
          obtain ⟨j1261, hj1261, H⟩ := lt_out H
          refine EW.cut (x := C9.r.r.r.r.r.r.r.l) (y := C9.r.r.r.r.r.r.r.r) (fun a w => ∃ x1260 : Int, Sat 103 [(2, .int .u8 a403), (7, .slice A1095 x1094.length C1096), (9, .int .i64 (IntKind.i64.wrap a402)), (10, .int .i64 x1260)] a ∧ St B w (Ass.own 3 (Kd.int .i64) A1095 C1096 x1094 :: os) (Ro.sl (Kd.int .u8) A400 C401 l399 :: rs) ∧ j1261 x1260 = some x855) (by kernel_rfl) ?_ (fun a w hI => ?_)
          · refine EW.seq (x := C9.r.r.r.r.r.r.r.l.l) (y := C9.r.r.r.r.r.r.r.l.r) (by kernel_rfl) ?_
            refine EW.region (id := 12) (ops := C9.r.r.r.r.r.r.r.l.l.ops) (by kernel_rfl) ?_
            refine EL.quick 1 [2, 7, 9, 10, 11] [(2, .int .u8 a403), (7, .slice A1095 x1094.length C1096), (9, .int .i64 (IntKind.i64.wrap a402)), (10, .int .i64 0), (11, .int .i64 0)] (by kernel_rfl) ?_
            refine EL.done (by kernel_rfl) ?_
            refine EQ.code ?_
            refine EW.block (x := C9.r.r.r.r.r.r.r.l.r.l) (id := 2) (by kernel_rfl) ?_
            refine EW.loop (x := C9.r.r.r.r.r.r.r.l.r.l.l) (fun n a w => ∃ x1270 : Int, ∃ x1271 : Int, Sat 103 [(2, .int .u8 a403), (7, .slice A1095 x1094.length C1096), (9, .int .i64 (IntKind.i64.wrap a402)), (10, .int .i64 x1270), (11, .int .i64 x1271)] a ∧ St B w (Ass.own 3 (Kd.int .i64) A1095 C1096 x1094 :: os) (Ro.sl (Kd.int .u8) A400 C401 l399 :: rs) ∧ confidantlaw18_TableTurns.l1 K x1094 a402 a403 j1261 n x1270 x1271 = some x855) K (by kernel_rfl) ?_ (fun n a w hI => ?_)
            · refine EQ.keep [2, 7, 9, 10, 11] [(2, .int .u8 a403), (7, .slice A1095 x1094.length C1096), (9, .int .i64 (IntKind.i64.wrap a402)), (10, .int .i64 0), (11, .int .i64 0)] (by kernel_rfl) ?_
              exact fun a ha => ⟨0, 0, ha, (hS.re [0] [] rfl (sub_cons 0 rfl (sub_tail (sub_self)))), H⟩
            · obtain ⟨x1270, x1271, ha, hS, H⟩ := hI
              obtain _ | n := n
              · simp [confidantlaw18_TableTurns.l1] at H
              rw [confidantlaw18_TableTurns.l1.eq_2] at H
              refine EW.at ?_ a ha
              clear ha a
              refine EW.seq (x := C9.r.r.r.r.r.r.r.l.r.l.l.l) (y := C9.r.r.r.r.r.r.r.l.r.l.l.r) (by kernel_rfl) ?_
              refine EW.seq (x := C9.r.r.r.r.r.r.r.l.r.l.l.l.l) (y := C9.r.r.r.r.r.r.r.l.r.l.l.l.r) (by kernel_rfl) ?_
              refine EW.region (id := 13) (ops := C9.r.r.r.r.r.r.r.l.r.l.l.l.l.ops) (by kernel_rfl) ?_
              refine EL.quick 2 [2, 7, 9, 10, 11, 40] [(2, .int .u8 a403), (7, .slice A1095 x1094.length C1096), (9, .int .i64 (IntKind.i64.wrap a402)), (10, .int .i64 x1270), (11, .int .i64 x1271), (40, .bool (decide (x1271 < 4)))] (by kernel_rfl) ?_
              refine EL.done (by kernel_rfl) ?_
              refine EQ.code ?_
              refine EW.condP (o := (.tmp 40)) (x := C9.r.r.r.r.r.r.r.l.r.l.l.l.r.l) (y := C9.r.r.r.r.r.r.r.l.r.l.l.l.r.r) (x1271 < 4) (by kernel_rfl) (by kernel_rfl) (fun h1283 => ?_) (fun h1283 => ?_)
              · rw [if_pos h1283] at H
                refine EW.skip (by kernel_rfl) ?_
                refine EQ.code ?_
                refine EW.seq (x := C9.r.r.r.r.r.r.r.l.r.l.l.r.l) (y := C9.r.r.r.r.r.r.r.l.r.l.l.r.r) (by kernel_rfl) ?_
                refine EW.block (x := C9.r.r.r.r.r.r.r.l.r.l.l.r.l.l) (id := 3) (by kernel_rfl) ?_
                refine EW.region (id := 15) (ops := C9.r.r.r.r.r.r.r.l.r.l.l.r.l.l.ops) (by kernel_rfl) ?_
                refine EL.quick 8 [2, 7, 9, 11, 43, 44, 45, 46, 50] [(2, .int .u8 a403), (7, .slice A1095 x1094.length C1096), (9, .int .i64 (IntKind.i64.wrap a402)), (11, .int .i64 x1271), (43, .int .i64 x1270), (44, .slice A1095 x1094.length C1096), (45, .int .i64 x1271), (46, .int .i64 (IntKind.i64.wrap a402)), (50, .int .i64 (IntKind.i64.wrap ((IntKind.i64.wrap a402) + (IntKind.i64.wrap a403))))] (by kernel_rfl) ?_
                obtain ⟨t1286, hc1287, H⟩ := b1_out H
                refine EL.of (EO.callD 40 [.slice A1095 x1094.length C1096, .int .i64 x1271, .int .i64 (IntKind.i64.wrap a402), .int .i64 (IntKind.i64.wrap ((IntKind.i64.wrap a402) + (IntKind.i64.wrap a403)))] _ 51 (by kernel_rfl) (by kernel_rfl) (by kernel_rfl) (table_Slots.calls hc1287 (hS.lend [Ro.sl (Kd.int .i64) A1095 C1096 x1094] ⟨Lent.own 0 rfl, trivial⟩)) ?_)
                rintro v w ⟨rfl, hL⟩
                have hS : St B w (Ass.own 3 (Kd.int .i64) A1095 C1096 x1094 :: os) (Ro.sl (Kd.int .u8) A400 C401 l399 :: rs) := hS.borrow hL trivial
                refine EL.quick 2 [2, 7, 9, 10, 11] [(2, .int .u8 a403), (7, .slice A1095 x1094.length C1096), (9, .int .i64 (IntKind.i64.wrap a402)), (10, .int .i64 (IntKind.i64.wrap (x1270 + t1286))), (11, .int .i64 x1271)] (by kernel_rfl) ?_
                refine EL.done (by kernel_rfl) ?_
                refine EQ.pop ?_
                refine EQ.code ?_
                refine EW.region (id := 14) (ops := C9.r.r.r.r.r.r.r.l.r.l.l.r.r.ops) (by kernel_rfl) ?_
                refine EL.quick 3 [2, 7, 9, 10, 11] [(2, .int .u8 a403), (7, .slice A1095 x1094.length C1096), (9, .int .i64 (IntKind.i64.wrap a402)), (10, .int .i64 (IntKind.i64.wrap (x1270 + t1286))), (11, .int .i64 (IntKind.i64.wrap (x1271 + 1)))] (by kernel_rfl) ?_
                refine EL.done (by kernel_rfl) ?_
                refine EQ.to ?_
                refine EQ.keep [2, 7, 9, 10, 11] [(2, .int .u8 a403), (7, .slice A1095 x1094.length C1096), (9, .int .i64 (IntKind.i64.wrap a402)), (10, .int .i64 (IntKind.i64.wrap (x1270 + t1286))), (11, .int .i64 (IntKind.i64.wrap (x1271 + 1)))] (by kernel_rfl) ?_
                exact fun a ha => ⟨n, Nat.lt_succ_self n, IntKind.i64.wrap (x1270 + t1286), IntKind.i64.wrap (x1271 + 1), ha, (hS.re [0] [] rfl (sub_cons 0 rfl (sub_tail (sub_self)))), H⟩
              · rw [if_neg h1283] at H
                refine EW.exit (id := 2) (by kernel_rfl) ?_
                refine EQ.exitCode ?_
                refine EQ.exitTo ?_
                refine EQ.exitHere ?_
                refine EQ.to ?_
                refine EQ.keep [2, 7, 9, 10] [(2, .int .u8 a403), (7, .slice A1095 x1094.length C1096), (9, .int .i64 (IntKind.i64.wrap a402)), (10, .int .i64 x1270)] (by kernel_rfl) ?_
                exact fun a ha => ⟨x1270, ha, (hS.re [0] [] rfl (sub_cons 0 rfl (sub_tail (sub_self)))), H⟩
          · obtain ⟨x1260, ha, hS, H⟩ := hI
            rw [hj1261] at H
            (try dsimp only at H)
            refine EW.at ?_ a ha
            clear ha a
            refine EW.seq (x := C9.r.r.r.r.r.r.r.r.l) (y := C9.r.r.r.r.r.r.r.r.r) (by kernel_rfl) ?_
            obtain ⟨t1288, hc1289, H⟩ := b1_out H
            obtain ⟨t1290, hc1291, H⟩ := b1_out H
            by_cases h1292 : t1288 = t1290
            · rw [if_pos h1292] at H
              obtain ⟨t1293, hc1294, H⟩ := b1_out H
              obtain ⟨h1295, H⟩ := ite_out H
              obtain ⟨h1296, H⟩ := ite_in H
              obtain ⟨h1297, H⟩ := ite_in H
              obtain ⟨ad1298, rfl⟩ := St.rd_some hS (Rd.own 0 3 rfl) h1296 h1297
              by_cases h1299 : t1293 = (x1094.getD (Int.tmod (IntKind.i64.wrap a402) (x1094.length : Int)).toNat 0)
              · rw [if_pos h1299] at H
                by_cases h1300 : x1260 = (IntKind.i64.wrap a403)
                · rw [if_pos h1300] at H
                  obtain ⟨t1301, hc1302, H⟩ := b1_out H
                  by_cases h1303 : t1301 = 0
                  · rw [if_pos h1303] at H
                    obtain ⟨t1304, hc1305, H⟩ := b1_out H
                    obtain ⟨h1306, H⟩ := ite_in H
                    have hS := hS.drew
                    refine EW.draw (B := B) (id := 16) (ops := C9.r.r.r.r.r.r.r.r.l.ops) [Ass.own 3 (Kd.int .i64) (some ad1298) C1096 x1094] [Ro.sl (Kd.int .u8) A400 C401 l399] (by kernel_rfl) (by kernel_rfl) ?_
                    have hN : Region.noSelect C9.r.r.r.r.r.r.r.r.l.ops = true := (by kernel_rfl)
                    have hF : freeAll C9.r.r.r.r.r.r.r.r.l.ops = true := (by kernel_rfl)
                    have hC : Core B [Ass.own 3 (Kd.int .i64) (some ad1298) C1096 x1094] [Ro.sl (Kd.int .u8) A400 C401 l399] _ := ⟨_, _, hS⟩
                    refine ED.quick hN hF hC [0, 1, 3, 4, 5, 6, 7, 8, 9, 10] [2, 7, 9, 10, 53, 54, 56, 63] 41 [(2, .int .u8 a403), (7, .slice (some ad1298) x1094.length C1096), (9, .int .i64 (IntKind.i64.wrap a402)), (10, .int .i64 x1260), (53, .slice (some ad1298) x1094.length C1096), (54, .int .i64 (IntKind.i64.wrap a402)), (56, .slice (some ad1298) x1094.length C1096), (63, .int .i64 (IntKind.i64.wrap ((IntKind.i64.wrap a402) + (IntKind.i64.wrap ((IntKind.i64.wrap a403) * (x1094.length : Int))))))] #[true, true, false, true, true, true, true, true, true, true, true, false, false, false, false, false, false, false, false, false, false, false, false, false, false, false, false, false, false, false, false, false, false, false, false, false, false, false, false, false, false, false, false, false, false, false, false, false, false, false, false] (by kernel_rfl) (by kernel_rfl) ?_
                    refine ED.one 2 40 #[true, true, true, true, true, true, true, true, true, true, true, false, false, false, false, false, false, false, false, false, false, false, false, false, false, false, false, false, false, false, false, false, false, false, false, false, false, false, false, false, false, false, false, false, false, false, false, false, false, false, false] (by kernel_rfl) (by kernel_rfl) (by kernel_rfl) (EO.callD 36 [.slice (some ad1298) x1094.length C1096, .int .i64 (IntKind.i64.wrap a402)] _ 55 (by kernel_rfl) (by kernel_rfl) (by kernel_rfl) (table_At.calls hc1289 (hS.lend [Ro.sl (Kd.int .i64) (some ad1298) C1096 x1094] ⟨Lent.own 0 rfl, trivial⟩)) ?_)
                    rintro v w ⟨rfl, hL⟩
                    have hS : St B w (Ass.own 3 (Kd.int .i64) (some ad1298) C1096 x1094 :: os) (Ro.sl (Kd.int .u8) A400 C401 l399 :: rs) := hS.borrow hL trivial
                    have hC : Core B [Ass.own 3 (Kd.int .i64) (some ad1298) C1096 x1094] [Ro.sl (Kd.int .u8) A400 C401 l399] _ := ⟨_, _, hS⟩
                    refine ⟨hC, ?_⟩
                    refine ED.one 11 39 #[true, true, true, true, true, true, true, true, true, true, true, true, false, false, false, false, false, false, false, false, false, false, false, false, false, false, false, false, false, false, false, false, false, false, false, false, false, false, false, false, false, false, false, false, false, false, false, false, false, false, false] (by kernel_rfl) (by kernel_rfl) (by kernel_rfl) (EO.callD 36 [.slice (some ad1298) x1094.length C1096, .int .i64 (IntKind.i64.wrap ((IntKind.i64.wrap a402) + (IntKind.i64.wrap ((IntKind.i64.wrap a403) * (x1094.length : Int)))))] _ 64 (by kernel_rfl) (by kernel_rfl) (by kernel_rfl) (table_At.calls hc1291 (hS.lend [Ro.sl (Kd.int .i64) (some ad1298) C1096 x1094] ⟨Lent.own 0 rfl, trivial⟩)) ?_)
                    rintro v w ⟨rfl, hL⟩
                    have hS : St B w (Ass.own 3 (Kd.int .i64) (some ad1298) C1096 x1094 :: os) (Ro.sl (Kd.int .u8) A400 C401 l399 :: rs) := hS.borrow hL trivial
                    have hC : Core B [Ass.own 3 (Kd.int .i64) (some ad1298) C1096 x1094] [Ro.sl (Kd.int .u8) A400 C401 l399] _ := ⟨_, _, hS⟩
                    refine ⟨hC, ?_⟩
                    refine ED.quick hN hF hC [12, 13] [2, 7, 9, 10, 66] 37 [(2, .int .u8 a403), (7, .slice (some ad1298) x1094.length C1096), (9, .int .i64 (IntKind.i64.wrap a402)), (10, .int .i64 x1260), (66, .bool (decide (t1288 = t1290)))] #[true, true, true, true, true, true, true, true, true, true, true, true, true, true, false, false, false, false, false, false, false, false, false, false, false, false, false, false, false, false, false, false, false, false, false, false, false, false, false, false, false, false, false, false, false, false, false, false, false, false, false] (by kernel_rfl) (by kernel_rfl) ?_
                    refine ED.keep [2, 7, 9, 10, 66] [(2, .int .u8 a403), (7, .slice (some ad1298) x1094.length C1096), (9, .int .i64 (IntKind.i64.wrap a402)), (10, .int .i64 x1260), (66, .bool (decide (t1288 = t1290)))] (by kernel_rfl) ?_
                    refine ED.as' [(2, .int .u8 a403), (7, .slice (some ad1298) x1094.length C1096), (9, .int .i64 (IntKind.i64.wrap a402)), (10, .int .i64 x1260), (66, .bool (true))] (by simp only [dec_t h1292, Bool.not_true, Bool.not_false]) ?_
                    refine ED.quick hN hF hC [14, 15, 17, 18, 19, 20] [2, 7, 9, 10, 66, 67, 68, 70, 71, 73] 31 [(2, .int .u8 a403), (7, .slice (some ad1298) x1094.length C1096), (9, .int .i64 (IntKind.i64.wrap a402)), (10, .int .i64 x1260), (66, .bool (true)), (67, .slice (some ad1298) x1094.length C1096), (68, .int .i64 (IntKind.i64.wrap a402)), (70, .slice (some ad1298) x1094.length C1096), (71, .int .i64 (IntKind.i64.wrap a402)), (73, .int .i64 (x1094.length : Int))] #[true, true, true, true, true, true, true, true, true, true, true, true, true, true, true, true, false, true, true, true, true, false, false, false, false, false, false, false, false, false, false, false, false, false, false, false, false, false, false, false, false, false, false, false, false, false, false, false, false, false, false] (by kernel_rfl) (by kernel_rfl) ?_
                    refine ED.Y hN hF hC 21 30 #[true, true, true, true, true, true, true, true, true, true, true, true, true, true, true, true, false, true, true, true, true, true, false, false, false, false, false, false, false, false, false, false, false, false, false, false, false, false, false, false, false, false, false, false, false, false, false, false, false, false, false] (by kernel_rfl) (by kernel_rfl) rfl (fun _ _ _ hS => YO.div .rem .i64 (IntKind.i64.wrap a402) (x1094.length : Int) (Int.tmod (IntKind.i64.wrap a402) (x1094.length : Int)) 74 (by kernel_rfl) (by kernel_rfl) (by kernel_rfl) h1295 (by first | exact .inl ⟨rfl, rfl⟩ | exact .inr ⟨rfl, rfl⟩)) ?_
                    refine ED.Y hN hF hC 22 29 #[true, true, true, true, true, true, true, true, true, true, true, true, true, true, true, true, false, true, true, true, true, true, true, false, false, false, false, false, false, false, false, false, false, false, false, false, false, false, false, false, false, false, false, false, false, false, false, false, false, false, false] (by kernel_rfl) (by kernel_rfl) rfl (fun _ _ _ hS => YO.idx 24 1 ad1298 x1094.length C1096 .i64 (Int.tmod (IntKind.i64.wrap a402) (x1094.length : Int)) 75 (by kernel_rfl) (by kernel_rfl) (by kernel_rfl) (by kernel_rfl) h1296 h1297) ?_
                    refine ED.Y hN hF hC 23 28 #[true, true, true, true, true, true, true, true, true, true, true, true, true, true, true, true, false, true, true, true, true, true, true, true, false, false, false, false, false, false, false, false, false, false, false, false, false, false, false, false, false, false, false, false, false, false, false, false, false, false, false] (by kernel_rfl) (by kernel_rfl) rfl (fun _ _ _ hS => YO.loadEl hS (Kd.int .i64) ad1298 C1096 x1094 (Rd.own 0 3 rfl) 0 (encI .i64) encI_of (Int.tmod (IntKind.i64.wrap a402) (x1094.length : Int)) h1296 h1297 3 1 0 1 rfl (.int .i64 (x1094.getD (Int.tmod (IntKind.i64.wrap a402) (x1094.length : Int)).toNat 0)) 76 (by kernel_rfl) (by kernel_rfl) (by kernel_rfl) (by kernel_rfl)) ?_
                    refine ED.one 16 27 #[true, true, true, true, true, true, true, true, true, true, true, true, true, true, true, true, true, true, true, true, true, true, true, true, false, false, false, false, false, false, false, false, false, false, false, false, false, false, false, false, false, false, false, false, false, false, false, false, false, false, false] (by kernel_rfl) (by kernel_rfl) (by kernel_rfl) (EO.callD 36 [.slice (some ad1298) x1094.length C1096, .int .i64 (IntKind.i64.wrap a402)] _ 69 (by kernel_rfl) (by kernel_rfl) (by kernel_rfl) (table_At.calls hc1294 (hS.lend [Ro.sl (Kd.int .i64) (some ad1298) C1096 x1094] ⟨Lent.own 0 rfl, trivial⟩)) ?_)
                    rintro v w ⟨rfl, hL⟩
                    have hS : St B w (Ass.own 3 (Kd.int .i64) (some ad1298) C1096 x1094 :: os) (Ro.sl (Kd.int .u8) A400 C401 l399 :: rs) := hS.borrow hL trivial
                    have hC : Core B [Ass.own 3 (Kd.int .i64) (some ad1298) C1096 x1094] [Ro.sl (Kd.int .u8) A400 C401 l399] _ := ⟨_, _, hS⟩
                    refine ⟨hC, ?_⟩
                    refine ED.quick hN hF hC [24, 25, 26] [2, 7, 9, 10, 79] 24 [(2, .int .u8 a403), (7, .slice (some ad1298) x1094.length C1096), (9, .int .i64 (IntKind.i64.wrap a402)), (10, .int .i64 x1260), (79, .bool (decide (t1293 = (x1094.getD (Int.tmod (IntKind.i64.wrap a402) (x1094.length : Int)).toNat 0))))] #[true, true, true, true, true, true, true, true, true, true, true, true, true, true, true, true, true, true, true, true, true, true, true, true, true, true, true, false, false, false, false, false, false, false, false, false, false, false, false, false, false, false, false, false, false, false, false, false, false, false, false] (by kernel_rfl) (by kernel_rfl) ?_
                    refine ED.keep [2, 7, 9, 10, 79] [(2, .int .u8 a403), (7, .slice (some ad1298) x1094.length C1096), (9, .int .i64 (IntKind.i64.wrap a402)), (10, .int .i64 x1260), (79, .bool (decide (t1293 = (x1094.getD (Int.tmod (IntKind.i64.wrap a402) (x1094.length : Int)).toNat 0))))] (by kernel_rfl) ?_
                    refine ED.as' [(2, .int .u8 a403), (7, .slice (some ad1298) x1094.length C1096), (9, .int .i64 (IntKind.i64.wrap a402)), (10, .int .i64 x1260), (79, .bool (true))] (by simp only [dec_t h1299, Bool.not_true, Bool.not_false]) ?_
                    refine ED.quick hN hF hC [27, 28, 29, 30, 31, 32] [7, 9, 85] 18 [(7, .slice (some ad1298) x1094.length C1096), (9, .int .i64 (IntKind.i64.wrap a402)), (85, .bool (decide (x1260 = (IntKind.i64.wrap a403))))] #[true, true, true, true, true, true, true, true, true, true, true, true, true, true, true, true, true, true, true, true, true, true, true, true, true, true, true, true, true, true, true, true, true, false, false, false, false, false, false, false, false, false, false, false, false, false, false, false, false, false, false] (by kernel_rfl) (by kernel_rfl) ?_
                    refine ED.keep [7, 9, 85] [(7, .slice (some ad1298) x1094.length C1096), (9, .int .i64 (IntKind.i64.wrap a402)), (85, .bool (decide (x1260 = (IntKind.i64.wrap a403))))] (by kernel_rfl) ?_
                    refine ED.as' [(7, .slice (some ad1298) x1094.length C1096), (9, .int .i64 (IntKind.i64.wrap a402)), (85, .bool (true))] (by simp only [dec_t h1300, Bool.not_true, Bool.not_false]) ?_
                    refine ED.quick hN hF hC [33, 34, 35, 36] [7, 9, 85, 86, 88, 89] 14 [(7, .slice (some ad1298) x1094.length C1096), (9, .int .i64 (IntKind.i64.wrap a402)), (85, .bool (true)), (86, .slice (some ad1298) x1094.length C1096), (88, .int .i64 (IntKind.i64.wrap ((IntKind.i64.wrap a402) + 1))), (89, .int .i64 (IntKind.i64.wrap a402))] #[true, true, true, true, true, true, true, true, true, true, true, true, true, true, true, true, true, true, true, true, true, true, true, true, true, true, true, true, true, true, true, true, true, true, true, true, true, false, false, false, false, false, false, false, false, false, false, false, false, false, false] (by kernel_rfl) (by kernel_rfl) ?_
                    refine ED.one 37 13 #[true, true, true, true, true, true, true, true, true, true, true, true, true, true, true, true, true, true, true, true, true, true, true, true, true, true, true, true, true, true, true, true, true, true, true, true, true, true, false, false, false, false, false, false, false, false, false, false, false, false, false] (by kernel_rfl) (by kernel_rfl) (by kernel_rfl) (EO.callD 40 [.slice (some ad1298) x1094.length C1096, .int .i64 0, .int .i64 (IntKind.i64.wrap ((IntKind.i64.wrap a402) + 1)), .int .i64 (IntKind.i64.wrap a402)] _ 90 (by kernel_rfl) (by kernel_rfl) (by kernel_rfl) (table_Slots.calls hc1302 (hS.lend [Ro.sl (Kd.int .i64) (some ad1298) C1096 x1094] ⟨Lent.own 0 rfl, trivial⟩)) ?_)
                    rintro v w ⟨rfl, hL⟩
                    have hS : St B w (Ass.own 3 (Kd.int .i64) (some ad1298) C1096 x1094 :: os) (Ro.sl (Kd.int .u8) A400 C401 l399 :: rs) := hS.borrow hL trivial
                    have hC : Core B [Ass.own 3 (Kd.int .i64) (some ad1298) C1096 x1094] [Ro.sl (Kd.int .u8) A400 C401 l399] _ := ⟨_, _, hS⟩
                    refine ⟨hC, ?_⟩
                    refine ED.quick hN hF hC [38, 39, 40] [7, 9, 93] 10 [(7, .slice (some ad1298) x1094.length C1096), (9, .int .i64 (IntKind.i64.wrap a402)), (93, .bool (decide (t1301 = 0)))] #[true, true, true, true, true, true, true, true, true, true, true, true, true, true, true, true, true, true, true, true, true, true, true, true, true, true, true, true, true, true, true, true, true, true, true, true, true, true, true, true, true, false, false, false, false, false, false, false, false, false, false] (by kernel_rfl) (by kernel_rfl) ?_
                    refine ED.keep [7, 9, 93] [(7, .slice (some ad1298) x1094.length C1096), (9, .int .i64 (IntKind.i64.wrap a402)), (93, .bool (decide (t1301 = 0)))] (by kernel_rfl) ?_
                    refine ED.as' [(7, .slice (some ad1298) x1094.length C1096), (9, .int .i64 (IntKind.i64.wrap a402)), (93, .bool (true))] (by simp only [dec_t h1303, Bool.not_true, Bool.not_false]) ?_
                    refine ED.quick hN hF hC [41, 42, 43, 45] [93, 94, 96, 98] 6 [(93, .bool (true)), (94, .slice (some ad1298) x1094.length C1096), (96, .int .i64 (IntKind.i64.wrap (0 - (IntKind.i64.wrap a402)))), (98, .slice (some ad1298) x1094.length C1096)] #[true, true, true, true, true, true, true, true, true, true, true, true, true, true, true, true, true, true, true, true, true, true, true, true, true, true, true, true, true, true, true, true, true, true, true, true, true, true, true, true, true, true, true, true, false, true, false, false, false, false, false] (by kernel_rfl) (by kernel_rfl) ?_
                    refine ED.Y hN hF hC 46 5 #[true, true, true, true, true, true, true, true, true, true, true, true, true, true, true, true, true, true, true, true, true, true, true, true, true, true, true, true, true, true, true, true, true, true, true, true, true, true, true, true, true, true, true, true, false, true, true, false, false, false, false] (by kernel_rfl) (by kernel_rfl) rfl (fun _ _ _ hS => YO.idx 24 1 ad1298 x1094.length C1096 .i64 0 99 (by kernel_rfl) (by kernel_rfl) (by kernel_rfl) (by kernel_rfl) (by decide) h1306) ?_
                    refine ED.Y hN hF hC 47 4 #[true, true, true, true, true, true, true, true, true, true, true, true, true, true, true, true, true, true, true, true, true, true, true, true, true, true, true, true, true, true, true, true, true, true, true, true, true, true, true, true, true, true, true, true, false, true, true, true, false, false, false] (by kernel_rfl) (by kernel_rfl) rfl (fun _ _ _ hS => YO.loadEl hS (Kd.int .i64) ad1298 C1096 x1094 (Rd.own 0 3 rfl) 0 (encI .i64) encI_of 0 (by decide) h1306 3 1 0 1 rfl (.int .i64 (x1094.getD (0 : Int).toNat 0)) 100 (by kernel_rfl) (by kernel_rfl) (by kernel_rfl) (by kernel_rfl)) ?_
                    refine ED.one 44 3 #[true, true, true, true, true, true, true, true, true, true, true, true, true, true, true, true, true, true, true, true, true, true, true, true, true, true, true, true, true, true, true, true, true, true, true, true, true, true, true, true, true, true, true, true, true, true, true, true, false, false, false] (by kernel_rfl) (by kernel_rfl) (by kernel_rfl) (EO.callD 36 [.slice (some ad1298) x1094.length C1096, .int .i64 (IntKind.i64.wrap (0 - (IntKind.i64.wrap a402)))] _ 97 (by kernel_rfl) (by kernel_rfl) (by kernel_rfl) (table_At.calls hc1305 (hS.lend [Ro.sl (Kd.int .i64) (some ad1298) C1096 x1094] ⟨Lent.own 0 rfl, trivial⟩)) ?_)
                    rintro v w ⟨rfl, hL⟩
                    have hS : St B w (Ass.own 3 (Kd.int .i64) (some ad1298) C1096 x1094 :: os) (Ro.sl (Kd.int .u8) A400 C401 l399 :: rs) := hS.borrow hL trivial
                    have hC : Core B [Ass.own 3 (Kd.int .i64) (some ad1298) C1096 x1094] [Ro.sl (Kd.int .u8) A400 C401 l399] _ := ⟨_, _, hS⟩
                    refine ⟨hC, ?_⟩
                    refine ED.quick hN hF hC [48, 49, 50] [6] 0 [(6, .bool (decide (t1304 = (x1094.getD (0 : Int).toNat 0))))] #[true, true, true, true, true, true, true, true, true, true, true, true, true, true, true, true, true, true, true, true, true, true, true, true, true, true, true, true, true, true, true, true, true, true, true, true, true, true, true, true, true, true, true, true, true, true, true, true, true, true, true] (by kernel_rfl) (by kernel_rfl) ?_
                    refine ED.done (by kernel_rfl) ?_
                    refine EQ.code ?_
                    refine EW.ret (by kernel_rfl) ?_
                    obtain rfl := Option.some.inj H
                    exact EQ.leave (.bool (decide (t1304 = (x1094.getD (0 : Int).toNat 0)))) (by kernel_rfl) ⟨_, rfl, rfl, (hS.re [] [0] rfl (sub_self))⟩
                  · rw [if_neg h1303] at H
                    have hS := hS.drew
                    refine EW.draw (B := B) (id := 16) (ops := C9.r.r.r.r.r.r.r.r.l.ops) [Ass.own 3 (Kd.int .i64) (some ad1298) C1096 x1094] [Ro.sl (Kd.int .u8) A400 C401 l399] (by kernel_rfl) (by kernel_rfl) ?_
                    have hN : Region.noSelect C9.r.r.r.r.r.r.r.r.l.ops = true := (by kernel_rfl)
                    have hF : freeAll C9.r.r.r.r.r.r.r.r.l.ops = true := (by kernel_rfl)
                    have hC : Core B [Ass.own 3 (Kd.int .i64) (some ad1298) C1096 x1094] [Ro.sl (Kd.int .u8) A400 C401 l399] _ := ⟨_, _, hS⟩
                    refine ED.quick hN hF hC [0, 1, 3, 4, 5, 6, 7, 8, 9, 10] [2, 7, 9, 10, 53, 54, 56, 63] 41 [(2, .int .u8 a403), (7, .slice (some ad1298) x1094.length C1096), (9, .int .i64 (IntKind.i64.wrap a402)), (10, .int .i64 x1260), (53, .slice (some ad1298) x1094.length C1096), (54, .int .i64 (IntKind.i64.wrap a402)), (56, .slice (some ad1298) x1094.length C1096), (63, .int .i64 (IntKind.i64.wrap ((IntKind.i64.wrap a402) + (IntKind.i64.wrap ((IntKind.i64.wrap a403) * (x1094.length : Int))))))] #[true, true, false, true, true, true, true, true, true, true, true, false, false, false, false, false, false, false, false, false, false, false, false, false, false, false, false, false, false, false, false, false, false, false, false, false, false, false, false, false, false, false, false, false, false, false, false, false, false, false, false] (by kernel_rfl) (by kernel_rfl) ?_
                    refine ED.one 2 40 #[true, true, true, true, true, true, true, true, true, true, true, false, false, false, false, false, false, false, false, false, false, false, false, false, false, false, false, false, false, false, false, false, false, false, false, false, false, false, false, false, false, false, false, false, false, false, false, false, false, false, false] (by kernel_rfl) (by kernel_rfl) (by kernel_rfl) (EO.callD 36 [.slice (some ad1298) x1094.length C1096, .int .i64 (IntKind.i64.wrap a402)] _ 55 (by kernel_rfl) (by kernel_rfl) (by kernel_rfl) (table_At.calls hc1289 (hS.lend [Ro.sl (Kd.int .i64) (some ad1298) C1096 x1094] ⟨Lent.own 0 rfl, trivial⟩)) ?_)
                    rintro v w ⟨rfl, hL⟩
                    have hS : St B w (Ass.own 3 (Kd.int .i64) (some ad1298) C1096 x1094 :: os) (Ro.sl (Kd.int .u8) A400 C401 l399 :: rs) := hS.borrow hL trivial
                    have hC : Core B [Ass.own 3 (Kd.int .i64) (some ad1298) C1096 x1094] [Ro.sl (Kd.int .u8) A400 C401 l399] _ := ⟨_, _, hS⟩
                    refine ⟨hC, ?_⟩
                    refine ED.one 11 39 #[true, true, true, true, true, true, true, true, true, true, true, true, false, false, false, false, false, false, false, false, false, false, false, false, false, false, false, false, false, false, false, false, false, false, false, false, false, false, false, false, false, false, false, false, false, false, false, false, false, false, false] (by kernel_rfl) (by kernel_rfl) (by kernel_rfl) (EO.callD 36 [.slice (some ad1298) x1094.length C1096, .int .i64 (IntKind.i64.wrap ((IntKind.i64.wrap a402) + (IntKind.i64.wrap ((IntKind.i64.wrap a403) * (x1094.length : Int)))))] _ 64 (by kernel_rfl) (by kernel_rfl) (by kernel_rfl) (table_At.calls hc1291 (hS.lend [Ro.sl (Kd.int .i64) (some ad1298) C1096 x1094] ⟨Lent.own 0 rfl, trivial⟩)) ?_)
                    rintro v w ⟨rfl, hL⟩
                    have hS : St B w (Ass.own 3 (Kd.int .i64) (some ad1298) C1096 x1094 :: os) (Ro.sl (Kd.int .u8) A400 C401 l399 :: rs) := hS.borrow hL trivial
                    have hC : Core B [Ass.own 3 (Kd.int .i64) (some ad1298) C1096 x1094] [Ro.sl (Kd.int .u8) A400 C401 l399] _ := ⟨_, _, hS⟩
                    refine ⟨hC, ?_⟩
                    refine ED.quick hN hF hC [12, 13] [2, 7, 9, 10, 66] 37 [(2, .int .u8 a403), (7, .slice (some ad1298) x1094.length C1096), (9, .int .i64 (IntKind.i64.wrap a402)), (10, .int .i64 x1260), (66, .bool (decide (t1288 = t1290)))] #[true, true, true, true, true, true, true, true, true, true, true, true, true, true, false, false, false, false, false, false, false, false, false, false, false, false, false, false, false, false, false, false, false, false, false, false, false, false, false, false, false, false, false, false, false, false, false, false, false, false, false] (by kernel_rfl) (by kernel_rfl) ?_
                    refine ED.keep [2, 7, 9, 10, 66] [(2, .int .u8 a403), (7, .slice (some ad1298) x1094.length C1096), (9, .int .i64 (IntKind.i64.wrap a402)), (10, .int .i64 x1260), (66, .bool (decide (t1288 = t1290)))] (by kernel_rfl) ?_
                    refine ED.as' [(2, .int .u8 a403), (7, .slice (some ad1298) x1094.length C1096), (9, .int .i64 (IntKind.i64.wrap a402)), (10, .int .i64 x1260), (66, .bool (true))] (by simp only [dec_t h1292, Bool.not_true, Bool.not_false]) ?_
                    refine ED.quick hN hF hC [14, 15, 17, 18, 19, 20] [2, 7, 9, 10, 66, 67, 68, 70, 71, 73] 31 [(2, .int .u8 a403), (7, .slice (some ad1298) x1094.length C1096), (9, .int .i64 (IntKind.i64.wrap a402)), (10, .int .i64 x1260), (66, .bool (true)), (67, .slice (some ad1298) x1094.length C1096), (68, .int .i64 (IntKind.i64.wrap a402)), (70, .slice (some ad1298) x1094.length C1096), (71, .int .i64 (IntKind.i64.wrap a402)), (73, .int .i64 (x1094.length : Int))] #[true, true, true, true, true, true, true, true, true, true, true, true, true, true, true, true, false, true, true, true, true, false, false, false, false, false, false, false, false, false, false, false, false, false, false, false, false, false, false, false, false, false, false, false, false, false, false, false, false, false, false] (by kernel_rfl) (by kernel_rfl) ?_
                    refine ED.Y hN hF hC 21 30 #[true, true, true, true, true, true, true, true, true, true, true, true, true, true, true, true, false, true, true, true, true, true, false, false, false, false, false, false, false, false, false, false, false, false, false, false, false, false, false, false, false, false, false, false, false, false, false, false, false, false, false] (by kernel_rfl) (by kernel_rfl) rfl (fun _ _ _ hS => YO.div .rem .i64 (IntKind.i64.wrap a402) (x1094.length : Int) (Int.tmod (IntKind.i64.wrap a402) (x1094.length : Int)) 74 (by kernel_rfl) (by kernel_rfl) (by kernel_rfl) h1295 (by first | exact .inl ⟨rfl, rfl⟩ | exact .inr ⟨rfl, rfl⟩)) ?_
                    refine ED.Y hN hF hC 22 29 #[true, true, true, true, true, true, true, true, true, true, true, true, true, true, true, true, false, true, true, true, true, true, true, false, false, false, false, false, false, false, false, false, false, false, false, false, false, false, false, false, false, false, false, false, false, false, false, false, false, false, false] (by kernel_rfl) (by kernel_rfl) rfl (fun _ _ _ hS => YO.idx 24 1 ad1298 x1094.length C1096 .i64 (Int.tmod (IntKind.i64.wrap a402) (x1094.length : Int)) 75 (by kernel_rfl) (by kernel_rfl) (by kernel_rfl) (by kernel_rfl) h1296 h1297) ?_
                    refine ED.Y hN hF hC 23 28 #[true, true, true, true, true, true, true, true, true, true, true, true, true, true, true, true, false, true, true, true, true, true, true, true, false, false, false, false, false, false, false, false, false, false, false, false, false, false, false, false, false, false, false, false, false, false, false, false, false, false, false] (by kernel_rfl) (by kernel_rfl) rfl (fun _ _ _ hS => YO.loadEl hS (Kd.int .i64) ad1298 C1096 x1094 (Rd.own 0 3 rfl) 0 (encI .i64) encI_of (Int.tmod (IntKind.i64.wrap a402) (x1094.length : Int)) h1296 h1297 3 1 0 1 rfl (.int .i64 (x1094.getD (Int.tmod (IntKind.i64.wrap a402) (x1094.length : Int)).toNat 0)) 76 (by kernel_rfl) (by kernel_rfl) (by kernel_rfl) (by kernel_rfl)) ?_
                    refine ED.one 16 27 #[true, true, true, true, true, true, true, true, true, true, true, true, true, true, true, true, true, true, true, true, true, true, true, true, false, false, false, false, false, false, false, false, false, false, false, false, false, false, false, false, false, false, false, false, false, false, false, false, false, false, false] (by kernel_rfl) (by kernel_rfl) (by kernel_rfl) (EO.callD 36 [.slice (some ad1298) x1094.length C1096, .int .i64 (IntKind.i64.wrap a402)] _ 69 (by kernel_rfl) (by kernel_rfl) (by kernel_rfl) (table_At.calls hc1294 (hS.lend [Ro.sl (Kd.int .i64) (some ad1298) C1096 x1094] ⟨Lent.own 0 rfl, trivial⟩)) ?_)
                    rintro v w ⟨rfl, hL⟩
                    have hS : St B w (Ass.own 3 (Kd.int .i64) (some ad1298) C1096 x1094 :: os) (Ro.sl (Kd.int .u8) A400 C401 l399 :: rs) := hS.borrow hL trivial
                    have hC : Core B [Ass.own 3 (Kd.int .i64) (some ad1298) C1096 x1094] [Ro.sl (Kd.int .u8) A400 C401 l399] _ := ⟨_, _, hS⟩
                    refine ⟨hC, ?_⟩
                    refine ED.quick hN hF hC [24, 25, 26] [2, 7, 9, 10, 79] 24 [(2, .int .u8 a403), (7, .slice (some ad1298) x1094.length C1096), (9, .int .i64 (IntKind.i64.wrap a402)), (10, .int .i64 x1260), (79, .bool (decide (t1293 = (x1094.getD (Int.tmod (IntKind.i64.wrap a402) (x1094.length : Int)).toNat 0))))] #[true, true, true, true, true, true, true, true, true, true, true, true, true, true, true, true, true, true, true, true, true, true, true, true, true, true, true, false, false, false, false, false, false, false, false, false, false, false, false, false, false, false, false, false, false, false, false, false, false, false, false] (by kernel_rfl) (by kernel_rfl) ?_
                    refine ED.keep [2, 7, 9, 10, 79] [(2, .int .u8 a403), (7, .slice (some ad1298) x1094.length C1096), (9, .int .i64 (IntKind.i64.wrap a402)), (10, .int .i64 x1260), (79, .bool (decide (t1293 = (x1094.getD (Int.tmod (IntKind.i64.wrap a402) (x1094.length : Int)).toNat 0))))] (by kernel_rfl) ?_
                    refine ED.as' [(2, .int .u8 a403), (7, .slice (some ad1298) x1094.length C1096), (9, .int .i64 (IntKind.i64.wrap a402)), (10, .int .i64 x1260), (79, .bool (true))] (by simp only [dec_t h1299, Bool.not_true, Bool.not_false]) ?_
                    refine ED.quick hN hF hC [27, 28, 29, 30, 31, 32] [7, 9, 85] 18 [(7, .slice (some ad1298) x1094.length C1096), (9, .int .i64 (IntKind.i64.wrap a402)), (85, .bool (decide (x1260 = (IntKind.i64.wrap a403))))] #[true, true, true, true, true, true, true, true, true, true, true, true, true, true, true, true, true, true, true, true, true, true, true, true, true, true, true, true, true, true, true, true, true, false, false, false, false, false, false, false, false, false, false, false, false, false, false, false, false, false, false] (by kernel_rfl) (by kernel_rfl) ?_
                    refine ED.keep [7, 9, 85] [(7, .slice (some ad1298) x1094.length C1096), (9, .int .i64 (IntKind.i64.wrap a402)), (85, .bool (decide (x1260 = (IntKind.i64.wrap a403))))] (by kernel_rfl) ?_
                    refine ED.as' [(7, .slice (some ad1298) x1094.length C1096), (9, .int .i64 (IntKind.i64.wrap a402)), (85, .bool (true))] (by simp only [dec_t h1300, Bool.not_true, Bool.not_false]) ?_
                    refine ED.quick hN hF hC [33, 34, 35, 36] [7, 9, 85, 86, 88, 89] 14 [(7, .slice (some ad1298) x1094.length C1096), (9, .int .i64 (IntKind.i64.wrap a402)), (85, .bool (true)), (86, .slice (some ad1298) x1094.length C1096), (88, .int .i64 (IntKind.i64.wrap ((IntKind.i64.wrap a402) + 1))), (89, .int .i64 (IntKind.i64.wrap a402))] #[true, true, true, true, true, true, true, true, true, true, true, true, true, true, true, true, true, true, true, true, true, true, true, true, true, true, true, true, true, true, true, true, true, true, true, true, true, false, false, false, false, false, false, false, false, false, false, false, false, false, false] (by kernel_rfl) (by kernel_rfl) ?_
                    refine ED.one 37 13 #[true, true, true, true, true, true, true, true, true, true, true, true, true, true, true, true, true, true, true, true, true, true, true, true, true, true, true, true, true, true, true, true, true, true, true, true, true, true, false, false, false, false, false, false, false, false, false, false, false, false, false] (by kernel_rfl) (by kernel_rfl) (by kernel_rfl) (EO.callD 40 [.slice (some ad1298) x1094.length C1096, .int .i64 0, .int .i64 (IntKind.i64.wrap ((IntKind.i64.wrap a402) + 1)), .int .i64 (IntKind.i64.wrap a402)] _ 90 (by kernel_rfl) (by kernel_rfl) (by kernel_rfl) (table_Slots.calls hc1302 (hS.lend [Ro.sl (Kd.int .i64) (some ad1298) C1096 x1094] ⟨Lent.own 0 rfl, trivial⟩)) ?_)
                    rintro v w ⟨rfl, hL⟩
                    have hS : St B w (Ass.own 3 (Kd.int .i64) (some ad1298) C1096 x1094 :: os) (Ro.sl (Kd.int .u8) A400 C401 l399 :: rs) := hS.borrow hL trivial
                    have hC : Core B [Ass.own 3 (Kd.int .i64) (some ad1298) C1096 x1094] [Ro.sl (Kd.int .u8) A400 C401 l399] _ := ⟨_, _, hS⟩
                    refine ⟨hC, ?_⟩
                    refine ED.quick hN hF hC [38, 39, 40] [7, 9, 93] 10 [(7, .slice (some ad1298) x1094.length C1096), (9, .int .i64 (IntKind.i64.wrap a402)), (93, .bool (decide (t1301 = 0)))] #[true, true, true, true, true, true, true, true, true, true, true, true, true, true, true, true, true, true, true, true, true, true, true, true, true, true, true, true, true, true, true, true, true, true, true, true, true, true, true, true, true, false, false, false, false, false, false, false, false, false, false] (by kernel_rfl) (by kernel_rfl) ?_
                    refine ED.keep [7, 9, 93] [(7, .slice (some ad1298) x1094.length C1096), (9, .int .i64 (IntKind.i64.wrap a402)), (93, .bool (decide (t1301 = 0)))] (by kernel_rfl) ?_
                    refine ED.as' [(7, .slice (some ad1298) x1094.length C1096), (9, .int .i64 (IntKind.i64.wrap a402)), (93, .bool (false))] (by simp only [dec_f h1303, Bool.not_true, Bool.not_false]) ?_
                    refine ED.quick hN hF hC [41, 42, 43, 44, 45, 46, 47, 48, 49, 50] [6] 0 [(6, .bool (false))] #[true, true, true, true, true, true, true, true, true, true, true, true, true, true, true, true, true, true, true, true, true, true, true, true, true, true, true, true, true, true, true, true, true, true, true, true, true, true, true, true, true, true, true, true, true, true, true, true, true, true, true] (by kernel_rfl) (by kernel_rfl) ?_
                    refine ED.done (by kernel_rfl) ?_
                    refine EQ.code ?_
                    refine EW.ret (by kernel_rfl) ?_
                    obtain rfl := Option.some.inj H
                    exact EQ.leave (.bool (false)) (by kernel_rfl) ⟨_, rfl, rfl, (hS.re [] [0] rfl (sub_self))⟩
                · rw [if_neg h1300] at H
                  have hS := hS.drew
                  refine EW.draw (B := B) (id := 16) (ops := C9.r.r.r.r.r.r.r.r.l.ops) [Ass.own 3 (Kd.int .i64) (some ad1298) C1096 x1094] [Ro.sl (Kd.int .u8) A400 C401 l399] (by kernel_rfl) (by kernel_rfl) ?_
                  have hN : Region.noSelect C9.r.r.r.r.r.r.r.r.l.ops = true := (by kernel_rfl)
                  have hF : freeAll C9.r.r.r.r.r.r.r.r.l.ops = true := (by kernel_rfl)
                  have hC : Core B [Ass.own 3 (Kd.int .i64) (some ad1298) C1096 x1094] [Ro.sl (Kd.int .u8) A400 C401 l399] _ := ⟨_, _, hS⟩
                  refine ED.quick hN hF hC [0, 1, 3, 4, 5, 6, 7, 8, 9, 10] [2, 7, 9, 10, 53, 54, 56, 63] 41 [(2, .int .u8 a403), (7, .slice (some ad1298) x1094.length C1096), (9, .int .i64 (IntKind.i64.wrap a402)), (10, .int .i64 x1260), (53, .slice (some ad1298) x1094.length C1096), (54, .int .i64 (IntKind.i64.wrap a402)), (56, .slice (some ad1298) x1094.length C1096), (63, .int .i64 (IntKind.i64.wrap ((IntKind.i64.wrap a402) + (IntKind.i64.wrap ((IntKind.i64.wrap a403) * (x1094.length : Int))))))] #[true, true, false, true, true, true, true, true, true, true, true, false, false, false, false, false, false, false, false, false, false, false, false, false, false, false, false, false, false, false, false, false, false, false, false, false, false, false, false, false, false, false, false, false, false, false, false, false, false, false, false] (by kernel_rfl) (by kernel_rfl) ?_
                  refine ED.one 2 40 #[true, true, true, true, true, true, true, true, true, true, true, false, false, false, false, false, false, false, false, false, false, false, false, false, false, false, false, false, false, false, false, false, false, false, false, false, false, false, false, false, false, false, false, false, false, false, false, false, false, false, false] (by kernel_rfl) (by kernel_rfl) (by kernel_rfl) (EO.callD 36 [.slice (some ad1298) x1094.length C1096, .int .i64 (IntKind.i64.wrap a402)] _ 55 (by kernel_rfl) (by kernel_rfl) (by kernel_rfl) (table_At.calls hc1289 (hS.lend [Ro.sl (Kd.int .i64) (some ad1298) C1096 x1094] ⟨Lent.own 0 rfl, trivial⟩)) ?_)
                  rintro v w ⟨rfl, hL⟩
                  have hS : St B w (Ass.own 3 (Kd.int .i64) (some ad1298) C1096 x1094 :: os) (Ro.sl (Kd.int .u8) A400 C401 l399 :: rs) := hS.borrow hL trivial
                  have hC : Core B [Ass.own 3 (Kd.int .i64) (some ad1298) C1096 x1094] [Ro.sl (Kd.int .u8) A400 C401 l399] _ := ⟨_, _, hS⟩
                  refine ⟨hC, ?_⟩
                  refine ED.one 11 39 #[true, true, true, true, true, true, true, true, true, true, true, true, false, false, false, false, false, false, false, false, false, false, false, false, false, false, false, false, false, false, false, false, false, false, false, false, false, false, false, false, false, false, false, false, false, false, false, false, false, false, false] (by kernel_rfl) (by kernel_rfl) (by kernel_rfl) (EO.callD 36 [.slice (some ad1298) x1094.length C1096, .int .i64 (IntKind.i64.wrap ((IntKind.i64.wrap a402) + (IntKind.i64.wrap ((IntKind.i64.wrap a403) * (x1094.length : Int)))))] _ 64 (by kernel_rfl) (by kernel_rfl) (by kernel_rfl) (table_At.calls hc1291 (hS.lend [Ro.sl (Kd.int .i64) (some ad1298) C1096 x1094] ⟨Lent.own 0 rfl, trivial⟩)) ?_)
                  rintro v w ⟨rfl, hL⟩
                  have hS : St B w (Ass.own 3 (Kd.int .i64) (some ad1298) C1096 x1094 :: os) (Ro.sl (Kd.int .u8) A400 C401 l399 :: rs) := hS.borrow hL trivial
                  have hC : Core B [Ass.own 3 (Kd.int .i64) (some ad1298) C1096 x1094] [Ro.sl (Kd.int .u8) A400 C401 l399] _ := ⟨_, _, hS⟩
                  refine ⟨hC, ?_⟩
                  refine ED.quick hN hF hC [12, 13] [2, 7, 9, 10, 66] 37 [(2, .int .u8 a403), (7, .slice (some ad1298) x1094.length C1096), (9, .int .i64 (IntKind.i64.wrap a402)), (10, .int .i64 x1260), (66, .bool (decide (t1288 = t1290)))] #[true, true, true, true, true, true, true, true, true, true, true, true, true, true, false, false, false, false, false, false, false, false, false, false, false, false, false, false, false, false, false, false, false, false, false, false, false, false, false, false, false, false, false, false, false, false, false, false, false, false, false] (by kernel_rfl) (by kernel_rfl) ?_
                  refine ED.keep [2, 7, 9, 10, 66] [(2, .int .u8 a403), (7, .slice (some ad1298) x1094.length C1096), (9, .int .i64 (IntKind.i64.wrap a402)), (10, .int .i64 x1260), (66, .bool (decide (t1288 = t1290)))] (by kernel_rfl) ?_
                  refine ED.as' [(2, .int .u8 a403), (7, .slice (some ad1298) x1094.length C1096), (9, .int .i64 (IntKind.i64.wrap a402)), (10, .int .i64 x1260), (66, .bool (true))] (by simp only [dec_t h1292, Bool.not_true, Bool.not_false]) ?_
                  refine ED.quick hN hF hC [14, 15, 17, 18, 19, 20] [2, 7, 9, 10, 66, 67, 68, 70, 71, 73] 31 [(2, .int .u8 a403), (7, .slice (some ad1298) x1094.length C1096), (9, .int .i64 (IntKind.i64.wrap a402)), (10, .int .i64 x1260), (66, .bool (true)), (67, .slice (some ad1298) x1094.length C1096), (68, .int .i64 (IntKind.i64.wrap a402)), (70, .slice (some ad1298) x1094.length C1096), (71, .int .i64 (IntKind.i64.wrap a402)), (73, .int .i64 (x1094.length : Int))] #[true, true, true, true, true, true, true, true, true, true, true, true, true, true, true, true, false, true, true, true, true, false, false, false, false, false, false, false, false, false, false, false, false, false, false, false, false, false, false, false, false, false, false, false, false, false, false, false, false, false, false] (by kernel_rfl) (by kernel_rfl) ?_
                  refine ED.Y hN hF hC 21 30 #[true, true, true, true, true, true, true, true, true, true, true, true, true, true, true, true, false, true, true, true, true, true, false, false, false, false, false, false, false, false, false, false, false, false, false, false, false, false, false, false, false, false, false, false, false, false, false, false, false, false, false] (by kernel_rfl) (by kernel_rfl) rfl (fun _ _ _ hS => YO.div .rem .i64 (IntKind.i64.wrap a402) (x1094.length : Int) (Int.tmod (IntKind.i64.wrap a402) (x1094.length : Int)) 74 (by kernel_rfl) (by kernel_rfl) (by kernel_rfl) h1295 (by first | exact .inl ⟨rfl, rfl⟩ | exact .inr ⟨rfl, rfl⟩)) ?_
                  refine ED.Y hN hF hC 22 29 #[true, true, true, true, true, true, true, true, true, true, true, true, true, true, true, true, false, true, true, true, true, true, true, false, false, false, false, false, false, false, false, false, false, false, false, false, false, false, false, false, false, false, false, false, false, false, false, false, false, false, false] (by kernel_rfl) (by kernel_rfl) rfl (fun _ _ _ hS => YO.idx 24 1 ad1298 x1094.length C1096 .i64 (Int.tmod (IntKind.i64.wrap a402) (x1094.length : Int)) 75 (by kernel_rfl) (by kernel_rfl) (by kernel_rfl) (by kernel_rfl) h1296 h1297) ?_
                  refine ED.Y hN hF hC 23 28 #[true, true, true, true, true, true, true, true, true, true, true, true, true, true, true, true, false, true, true, true, true, true, true, true, false, false, false, false, false, false, false, false, false, false, false, false, false, false, false, false, false, false, false, false, false, false, false, false, false, false, false] (by kernel_rfl) (by kernel_rfl) rfl (fun _ _ _ hS => YO.loadEl hS (Kd.int .i64) ad1298 C1096 x1094 (Rd.own 0 3 rfl) 0 (encI .i64) encI_of (Int.tmod (IntKind.i64.wrap a402) (x1094.length : Int)) h1296 h1297 3 1 0 1 rfl (.int .i64 (x1094.getD (Int.tmod (IntKind.i64.wrap a402) (x1094.length : Int)).toNat 0)) 76 (by kernel_rfl) (by kernel_rfl) (by kernel_rfl) (by kernel_rfl)) ?_
                  refine ED.one 16 27 #[true, true, true, true, true, true, true, true, true, true, true, true, true, true, true, true, true, true, true, true, true, true, true, true, false, false, false, false, false, false, false, false, false, false, false, false, false, false, false, false, false, false, false, false, false, false, false, false, false, false, false] (by kernel_rfl) (by kernel_rfl) (by kernel_rfl) (EO.callD 36 [.slice (some ad1298) x1094.length C1096, .int .i64 (IntKind.i64.wrap a402)] _ 69 (by kernel_rfl) (by kernel_rfl) (by kernel_rfl) (table_At.calls hc1294 (hS.lend [Ro.sl (Kd.int .i64) (some ad1298) C1096 x1094] ⟨Lent.own 0 rfl, trivial⟩)) ?_)
                  rintro v w ⟨rfl, hL⟩
                  have hS : St B w (Ass.own 3 (Kd.int .i64) (some ad1298) C1096 x1094 :: os) (Ro.sl (Kd.int .u8) A400 C401 l399 :: rs) := hS.borrow hL trivial
                  have hC : Core B [Ass.own 3 (Kd.int .i64) (some ad1298) C1096 x1094] [Ro.sl (Kd.int .u8) A400 C401 l399] _ := ⟨_, _, hS⟩
                  refine ⟨hC, ?_⟩
                  refine ED.quick hN hF hC [24, 25, 26] [2, 7, 9, 10, 79] 24 [(2, .int .u8 a403), (7, .slice (some ad1298) x1094.length C1096), (9, .int .i64 (IntKind.i64.wrap a402)), (10, .int .i64 x1260), (79, .bool (decide (t1293 = (x1094.getD (Int.tmod (IntKind.i64.wrap a402) (x1094.length : Int)).toNat 0))))] #[true, true, true, true, true, true, true, true, true, true, true, true, true, true, true, true, true, true, true, true, true, true, true, true, true, true, true, false, false, false, false, false, false, false, false, false, false, false, false, false, false, false, false, false, false, false, false, false, false, false, false] (by kernel_rfl) (by kernel_rfl) ?_
                  refine ED.keep [2, 7, 9, 10, 79] [(2, .int .u8 a403), (7, .slice (some ad1298) x1094.length C1096), (9, .int .i64 (IntKind.i64.wrap a402)), (10, .int .i64 x1260), (79, .bool (decide (t1293 = (x1094.getD (Int.tmod (IntKind.i64.wrap a402) (x1094.length : Int)).toNat 0))))] (by kernel_rfl) ?_
                  refine ED.as' [(2, .int .u8 a403), (7, .slice (some ad1298) x1094.length C1096), (9, .int .i64 (IntKind.i64.wrap a402)), (10, .int .i64 x1260), (79, .bool (true))] (by simp only [dec_t h1299, Bool.not_true, Bool.not_false]) ?_
                  refine ED.quick hN hF hC [27, 28, 29, 30, 31, 32] [7, 9, 85] 18 [(7, .slice (some ad1298) x1094.length C1096), (9, .int .i64 (IntKind.i64.wrap a402)), (85, .bool (decide (x1260 = (IntKind.i64.wrap a403))))] #[true, true, true, true, true, true, true, true, true, true, true, true, true, true, true, true, true, true, true, true, true, true, true, true, true, true, true, true, true, true, true, true, true, false, false, false, false, false, false, false, false, false, false, false, false, false, false, false, false, false, false] (by kernel_rfl) (by kernel_rfl) ?_
                  refine ED.keep [7, 9, 85] [(7, .slice (some ad1298) x1094.length C1096), (9, .int .i64 (IntKind.i64.wrap a402)), (85, .bool (decide (x1260 = (IntKind.i64.wrap a403))))] (by kernel_rfl) ?_
                  refine ED.as' [(7, .slice (some ad1298) x1094.length C1096), (9, .int .i64 (IntKind.i64.wrap a402)), (85, .bool (false))] (by simp only [dec_f h1300, Bool.not_true, Bool.not_false]) ?_
                  refine ED.quick hN hF hC [33, 34, 35, 36, 37, 38, 39, 40, 41, 42, 43, 44, 45, 46, 47, 48, 49, 50] [6] 0 [(6, .bool (false))] #[true, true, true, true, true, true, true, true, true, true, true, true, true, true, true, true, true, true, true, true, true, true, true, true, true, true, true, true, true, true, true, true, true, true, true, true, true, true, true, true, true, true, true, true, true, true, true, true, true, true, true] (by kernel_rfl) (by kernel_rfl) ?_
                  refine ED.done (by kernel_rfl) ?_
                  refine EQ.code ?_
                  refine EW.ret (by kernel_rfl) ?_
                  obtain rfl := Option.some.inj H
                  exact EQ.leave (.bool (false)) (by kernel_rfl) ⟨_, rfl, rfl, (hS.re [] [0] rfl (sub_self))⟩
              · rw [if_neg h1299] at H
                have hS := hS.drew
                refine EW.draw (B := B) (id := 16) (ops := C9.r.r.r.r.r.r.r.r.l.ops) [Ass.own 3 (Kd.int .i64) (some ad1298) C1096 x1094] [Ro.sl (Kd.int .u8) A400 C401 l399] (by kernel_rfl) (by kernel_rfl) ?_
                have hN : Region.noSelect C9.r.r.r.r.r.r.r.r.l.ops = true := (by kernel_rfl)
                have hF : freeAll C9.r.r.r.r.r.r.r.r.l.ops = true := (by kernel_rfl)
                have hC : Core B [Ass.own 3 (Kd.int .i64) (some ad1298) C1096 x1094] [Ro.sl (Kd.int .u8) A400 C401 l399] _ := ⟨_, _, hS⟩
                refine ED.quick hN hF hC [0, 1, 3, 4, 5, 6, 7, 8, 9, 10] [2, 7, 9, 10, 53, 54, 56, 63] 41 [(2, .int .u8 a403), (7, .slice (some ad1298) x1094.length C1096), (9, .int .i64 (IntKind.i64.wrap a402)), (10, .int .i64 x1260), (53, .slice (some ad1298) x1094.length C1096), (54, .int .i64 (IntKind.i64.wrap a402)), (56, .slice (some ad1298) x1094.length C1096), (63, .int .i64 (IntKind.i64.wrap ((IntKind.i64.wrap a402) + (IntKind.i64.wrap ((IntKind.i64.wrap a403) * (x1094.length : Int))))))] #[true, true, false, true, true, true, true, true, true, true, true, false, false, false, false, false, false, false, false, false, false, false, false, false, false, false, false, false, false, false, false, false, false, false, false, false, false, false, false, false, false, false, false, false, false, false, false, false, false, false, false] (by kernel_rfl) (by kernel_rfl) ?_
                refine ED.one 2 40 #[true, true, true, true, true, true, true, true, true, true, true, false, false, false, false, false, false, false, false, false, false, false, false, false, false, false, false, false, false, false, false, false, false, false, false, false, false, false, false, false, false, false, false, false, false, false, false, false, false, false, false] (by kernel_rfl) (by kernel_rfl) (by kernel_rfl) (EO.callD 36 [.slice (some ad1298) x1094.length C1096, .int .i64 (IntKind.i64.wrap a402)] _ 55 (by kernel_rfl) (by kernel_rfl) (by kernel_rfl) (table_At.calls hc1289 (hS.lend [Ro.sl (Kd.int .i64) (some ad1298) C1096 x1094] ⟨Lent.own 0 rfl, trivial⟩)) ?_)
                rintro v w ⟨rfl, hL⟩
                have hS : St B w (Ass.own 3 (Kd.int .i64) (some ad1298) C1096 x1094 :: os) (Ro.sl (Kd.int .u8) A400 C401 l399 :: rs) := hS.borrow hL trivial
                have hC : Core B [Ass.own 3 (Kd.int .i64) (some ad1298) C1096 x1094] [Ro.sl (Kd.int .u8) A400 C401 l399] _ := ⟨_, _, hS⟩
                refine ⟨hC, ?_⟩
                refine ED.one 11 39 #[true, true, true, true, true, true, true, true, true, true, true, true, false, false, false, false, false, false, false, false, false, false, false, false, false, false, false, false, false, false, false, false, false, false, false, false, false, false, false, false, false, false, false, false, false, false, false, false, false, false, false] (by kernel_rfl) (by kernel_rfl) (by kernel_rfl) (EO.callD 36 [.slice (some ad1298) x1094.length C1096, .int .i64 (IntKind.i64.wrap ((IntKind.i64.wrap a402) + (IntKind.i64.wrap ((IntKind.i64.wrap a403) * (x1094.length : Int)))))] _ 64 (by kernel_rfl) (by kernel_rfl) (by kernel_rfl) (table_At.calls hc1291 (hS.lend [Ro.sl (Kd.int .i64) (some ad1298) C1096 x1094] ⟨Lent.own 0 rfl, trivial⟩)) ?_)
                rintro v w ⟨rfl, hL⟩
                have hS : St B w (Ass.own 3 (Kd.int .i64) (some ad1298) C1096 x1094 :: os) (Ro.sl (Kd.int .u8) A400 C401 l399 :: rs) := hS.borrow hL trivial
                have hC : Core B [Ass.own 3 (Kd.int .i64) (some ad1298) C1096 x1094] [Ro.sl (Kd.int .u8) A400 C401 l399] _ := ⟨_, _, hS⟩
                refine ⟨hC, ?_⟩
                refine ED.quick hN hF hC [12, 13] [2, 7, 9, 10, 66] 37 [(2, .int .u8 a403), (7, .slice (some ad1298) x1094.length C1096), (9, .int .i64 (IntKind.i64.wrap a402)), (10, .int .i64 x1260), (66, .bool (decide (t1288 = t1290)))] #[true, true, true, true, true, true, true, true, true, true, true, true, true, true, false, false, false, false, false, false, false, false, false, false, false, false, false, false, false, false, false, false, false, false, false, false, false, false, false, false, false, false, false, false, false, false, false, false, false, false, false] (by kernel_rfl) (by kernel_rfl) ?_
                refine ED.keep [2, 7, 9, 10, 66] [(2, .int .u8 a403), (7, .slice (some ad1298) x1094.length C1096), (9, .int .i64 (IntKind.i64.wrap a402)), (10, .int .i64 x1260), (66, .bool (decide (t1288 = t1290)))] (by kernel_rfl) ?_
                refine ED.as' [(2, .int .u8 a403), (7, .slice (some ad1298) x1094.length C1096), (9, .int .i64 (IntKind.i64.wrap a402)), (10, .int .i64 x1260), (66, .bool (true))] (by simp only [dec_t h1292, Bool.not_true, Bool.not_false]) ?_
                refine ED.quick hN hF hC [14, 15, 17, 18, 19, 20] [2, 7, 9, 10, 66, 67, 68, 70, 71, 73] 31 [(2, .int .u8 a403), (7, .slice (some ad1298) x1094.length C1096), (9, .int .i64 (IntKind.i64.wrap a402)), (10, .int .i64 x1260), (66, .bool (true)), (67, .slice (some ad1298) x1094.length C1096), (68, .int .i64 (IntKind.i64.wrap a402)), (70, .slice (some ad1298) x1094.length C1096), (71, .int .i64 (IntKind.i64.wrap a402)), (73, .int .i64 (x1094.length : Int))] #[true, true, true, true, true, true, true, true, true, true, true, true, true, true, true, true, false, true, true, true, true, false, false, false, false, false, false, false, false, false, false, false, false, false, false, false, false, false, false, false, false, false, false, false, false, false, false, false, false, false, false] (by kernel_rfl) (by kernel_rfl) ?_
                refine ED.Y hN hF hC 21 30 #[true, true, true, true, true, true, true, true, true, true, true, true, true, true, true, true, false, true, true, true, true, true, false, false, false, false, false, false, false, false, false, false, false, false, false, false, false, false, false, false, false, false, false, false, false, false, false, false, false, false, false] (by kernel_rfl) (by kernel_rfl) rfl (fun _ _ _ hS => YO.div .rem .i64 (IntKind.i64.wrap a402) (x1094.length : Int) (Int.tmod (IntKind.i64.wrap a402) (x1094.length : Int)) 74 (by kernel_rfl) (by kernel_rfl) (by kernel_rfl) h1295 (by first | exact .inl ⟨rfl, rfl⟩ | exact .inr ⟨rfl, rfl⟩)) ?_
                refine ED.Y hN hF hC 22 29 #[true, true, true, true, true, true, true, true, true, true, true, true, true, true, true, true, false, true, true, true, true, true, true, false, false, false, false, false, false, false, false, false, false, false, false, false, false, false, false, false, false, false, false, false, false, false, false, false, false, false, false] (by kernel_rfl) (by kernel_rfl) rfl (fun _ _ _ hS => YO.idx 24 1 ad1298 x1094.length C1096 .i64 (Int.tmod (IntKind.i64.wrap a402) (x1094.length : Int)) 75 (by kernel_rfl) (by kernel_rfl) (by kernel_rfl) (by kernel_rfl) h1296 h1297) ?_
                refine ED.Y hN hF hC 23 28 #[true, true, true, true, true, true, true, true, true, true, true, true, true, true, true, true, false, true, true, true, true, true, true, true, false, false, false, false, false, false, false, false, false, false, false, false, false, false, false, false, false, false, false, false, false, false, false, false, false, false, false] (by kernel_rfl) (by kernel_rfl) rfl (fun _ _ _ hS => YO.loadEl hS (Kd.int .i64) ad1298 C1096 x1094 (Rd.own 0 3 rfl) 0 (encI .i64) encI_of (Int.tmod (IntKind.i64.wrap a402) (x1094.length : Int)) h1296 h1297 3 1 0 1 rfl (.int .i64 (x1094.getD (Int.tmod (IntKind.i64.wrap a402) (x1094.length : Int)).toNat 0)) 76 (by kernel_rfl) (by kernel_rfl) (by kernel_rfl) (by kernel_rfl)) ?_
                refine ED.one 16 27 #[true, true, true, true, true, true, true, true, true, true, true, true, true, true, true, true, true, true, true, true, true, true, true, true, false, false, false, false, false, false, false, false, false, false, false, false, false, false, false, false, false, false, false, false, false, false, false, false, false, false, false] (by kernel_rfl) (by kernel_rfl) (by kernel_rfl) (EO.callD 36 [.slice (some ad1298) x1094.length C1096, .int .i64 (IntKind.i64.wrap a402)] _ 69 (by kernel_rfl) (by kernel_rfl) (by kernel_rfl) (table_At.calls hc1294 (hS.lend [Ro.sl (Kd.int .i64) (some ad1298) C1096 x1094] ⟨Lent.own 0 rfl, trivial⟩)) ?_)
                rintro v w ⟨rfl, hL⟩
                have hS : St B w (Ass.own 3 (Kd.int .i64) (some ad1298) C1096 x1094 :: os) (Ro.sl (Kd.int .u8) A400 C401 l399 :: rs) := hS.borrow hL trivial
                have hC : Core B [Ass.own 3 (Kd.int .i64) (some ad1298) C1096 x1094] [Ro.sl (Kd.int .u8) A400 C401 l399] _ := ⟨_, _, hS⟩
                refine ⟨hC, ?_⟩
                refine ED.quick hN hF hC [24, 25, 26] [2, 7, 9, 10, 79] 24 [(2, .int .u8 a403), (7, .slice (some ad1298) x1094.length C1096), (9, .int .i64 (IntKind.i64.wrap a402)), (10, .int .i64 x1260), (79, .bool (decide (t1293 = (x1094.getD (Int.tmod (IntKind.i64.wrap a402) (x1094.length : Int)).toNat 0))))] #[true, true, true, true, true, true, true, true, true, true, true, true, true, true, true, true, true, true, true, true, true, true, true, true, true, true, true, false, false, false, false, false, false, false, false, false, false, false, false, false, false, false, false, false, false, false, false, false, false, false, false] (by kernel_rfl) (by kernel_rfl) ?_
                refine ED.keep [2, 7, 9, 10, 79] [(2, .int .u8 a403), (7, .slice (some ad1298) x1094.length C1096), (9, .int .i64 (IntKind.i64.wrap a402)), (10, .int .i64 x1260), (79, .bool (decide (t1293 = (x1094.getD (Int.tmod (IntKind.i64.wrap a402) (x1094.length : Int)).toNat 0))))] (by kernel_rfl) ?_
                refine ED.as' [(2, .int .u8 a403), (7, .slice (some ad1298) x1094.length C1096), (9, .int .i64 (IntKind.i64.wrap a402)), (10, .int .i64 x1260), (79, .bool (false))] (by simp only [dec_f h1299, Bool.not_true, Bool.not_false]) ?_
                refine ED.quick hN hF hC [27, 28, 29, 30, 31, 32, 33, 34, 35, 36, 37, 38, 39, 40, 41, 42, 43, 44, 45, 46, 47, 48, 49, 50] [6] 0 [(6, .bool (false))] #[true, true, true, true, true, true, true, true, true, true, true, true, true, true, true, true, true, true, true, true, true, true, true, true, true, true, true, true, true, true, true, true, true, true, true, true, true, true, true, true, true, true, true, true, true, true, true, true, true, true, true] (by kernel_rfl) (by kernel_rfl) ?_
                refine ED.done (by kernel_rfl) ?_
                refine EQ.code ?_
                refine EW.ret (by kernel_rfl) ?_
                obtain rfl := Option.some.inj H
                exact EQ.leave (.bool (false)) (by kernel_rfl) ⟨_, rfl, rfl, (hS.re [] [0] rfl (sub_self))⟩
            · rw [if_neg h1292] at H
              have hS := hS.drew
              refine EW.draw (B := B) (id := 16) (ops := C9.r.r.r.r.r.r.r.r.l.ops) [Ass.own 3 (Kd.int .i64) A1095 C1096 x1094] [Ro.sl (Kd.int .u8) A400 C401 l399] (by kernel_rfl) (by kernel_rfl) ?_
              have hN : Region.noSelect C9.r.r.r.r.r.r.r.r.l.ops = true := (by kernel_rfl)
              have hF : freeAll C9.r.r.r.r.r.r.r.r.l.ops = true := (by kernel_rfl)
              have hC : Core B [Ass.own 3 (Kd.int .i64) A1095 C1096 x1094] [Ro.sl (Kd.int .u8) A400 C401 l399] _ := ⟨_, _, hS⟩
              refine ED.quick hN hF hC [0, 1, 3, 4, 5, 6, 7, 8, 9, 10] [2, 7, 9, 10, 53, 54, 56, 63] 41 [(2, .int .u8 a403), (7, .slice A1095 x1094.length C1096), (9, .int .i64 (IntKind.i64.wrap a402)), (10, .int .i64 x1260), (53, .slice A1095 x1094.length C1096), (54, .int .i64 (IntKind.i64.wrap a402)), (56, .slice A1095 x1094.length C1096), (63, .int .i64 (IntKind.i64.wrap ((IntKind.i64.wrap a402) + (IntKind.i64.wrap ((IntKind.i64.wrap a403) * (x1094.length : Int))))))] #[true, true, false, true, true, true, true, true, true, true, true, false, false, false, false, false, false, false, false, false, false, false, false, false, false, false, false, false, false, false, false, false, false, false, false, false, false, false, false, false, false, false, false, false, false, false, false, false, false, false, false] (by kernel_rfl) (by kernel_rfl) ?_
              refine ED.one 2 40 #[true, true, true, true, true, true, true, true, true, true, true, false, false, false, false, false, false, false, false, false, false, false, false, false, false, false, false, false, false, false, false, false, false, false, false, false, false, false, false, false, false, false, false, false, false, false, false, false, false, false, false] (by kernel_rfl) (by kernel_rfl) (by kernel_rfl) (EO.callD 36 [.slice A1095 x1094.length C1096, .int .i64 (IntKind.i64.wrap a402)] _ 55 (by kernel_rfl) (by kernel_rfl) (by kernel_rfl) (table_At.calls hc1289 (hS.lend [Ro.sl (Kd.int .i64) A1095 C1096 x1094] ⟨Lent.own 0 rfl, trivial⟩)) ?_)
              rintro v w ⟨rfl, hL⟩
              have hS : St B w (Ass.own 3 (Kd.int .i64) A1095 C1096 x1094 :: os) (Ro.sl (Kd.int .u8) A400 C401 l399 :: rs) := hS.borrow hL trivial
              have hC : Core B [Ass.own 3 (Kd.int .i64) A1095 C1096 x1094] [Ro.sl (Kd.int .u8) A400 C401 l399] _ := ⟨_, _, hS⟩
              refine ⟨hC, ?_⟩
              refine ED.one 11 39 #[true, true, true, true, true, true, true, true, true, true, true, true, false, false, false, false, false, false, false, false, false, false, false, false, false, false, false, false, false, false, false, false, false, false, false, false, false, false, false, false, false, false, false, false, false, false, false, false, false, false, false] (by kernel_rfl) (by kernel_rfl) (by kernel_rfl) (EO.callD 36 [.slice A1095 x1094.length C1096, .int .i64 (IntKind.i64.wrap ((IntKind.i64.wrap a402) + (IntKind.i64.wrap ((IntKind.i64.wrap a403) * (x1094.length : Int)))))] _ 64 (by kernel_rfl) (by kernel_rfl) (by kernel_rfl) (table_At.calls hc1291 (hS.lend [Ro.sl (Kd.int .i64) A1095 C1096 x1094] ⟨Lent.own 0 rfl, trivial⟩)) ?_)
              rintro v w ⟨rfl, hL⟩
              have hS : St B w (Ass.own 3 (Kd.int .i64) A1095 C1096 x1094 :: os) (Ro.sl (Kd.int .u8) A400 C401 l399 :: rs) := hS.borrow hL trivial
              have hC : Core B [Ass.own 3 (Kd.int .i64) A1095 C1096 x1094] [Ro.sl (Kd.int .u8) A400 C401 l399] _ := ⟨_, _, hS⟩
              refine ⟨hC, ?_⟩
              refine ED.quick hN hF hC [12, 13] [2, 7, 9, 10, 66] 37 [(2, .int .u8 a403), (7, .slice A1095 x1094.length C1096), (9, .int .i64 (IntKind.i64.wrap a402)), (10, .int .i64 x1260), (66, .bool (decide (t1288 = t1290)))] #[true, true, true, true, true, true, true, true, true, true, true, true, true, true, false, false, false, false, false, false, false, false, false, false, false, false, false, false, false, false, false, false, false, false, false, false, false, false, false, false, false, false, false, false, false, false, false, false, false, false, false] (by kernel_rfl) (by kernel_rfl) ?_
              refine ED.keep [2, 7, 9, 10, 66] [(2, .int .u8 a403), (7, .slice A1095 x1094.length C1096), (9, .int .i64 (IntKind.i64.wrap a402)), (10, .int .i64 x1260), (66, .bool (decide (t1288 = t1290)))] (by kernel_rfl) ?_
              refine ED.as' [(2, .int .u8 a403), (7, .slice A1095 x1094.length C1096), (9, .int .i64 (IntKind.i64.wrap a402)), (10, .int .i64 x1260), (66, .bool (false))] (by simp only [dec_f h1292, Bool.not_true, Bool.not_false]) ?_
              refine ED.quick hN hF hC [14, 15, 16, 17, 18, 19, 20, 21, 22, 23, 24, 25, 26, 27, 28, 29, 30, 31, 32, 33, 34, 35, 36, 37, 38, 39, 40, 41, 42, 43, 44, 45, 46, 47, 48, 49, 50] [6] 0 [(6, .bool (false))] #[true, true, true, true, true, true, true, true, true, true, true, true, true, true, true, true, true, true, true, true, true, true, true, true, true, true, true, true, true, true, true, true, true, true, true, true, true, true, true, true, true, true, true, true, true, true, true, true, true, true, true] (by kernel_rfl) (by kernel_rfl) ?_
              refine ED.done (by kernel_rfl) ?_
              refine EQ.code ?_
              refine EW.ret (by kernel_rfl) ?_
              obtain rfl := Option.some.inj H
              exact EQ.leave (.bool (false)) (by kernel_rfl) ⟨_, rfl, rfl, (hS.re [] [0] rfl (sub_self))⟩
  · rw [if_neg h865] at H
    refine EW.seq (x := C9.r.l.r.l.l) (y := C9.r.l.r.l.r) (by kernel_rfl) ?_
    refine EW.region (id := 2) (ops := C9.r.l.r.l.l.ops) (by kernel_rfl) ?_
    refine EL.quick 1 [6] [(6, .bool (false))] (by kernel_rfl) ?_
    refine EL.done (by kernel_rfl) ?_
    refine EQ.code ?_
    refine EW.ret (by kernel_rfl) ?_
    refine EQ.ret ?_
    obtain rfl := Option.some.inj H
    exact EQ.leave (.bool (false)) (by kernel_rfl) ⟨_, rfl, rfl, (hS.re [] [] rfl (sub_self))⟩

def confidantlaw18_TableTurns.Pure : Prop := ∀ (l399 : List Int) (a402 : Int) (a403 : Int), l399.length * 1 ≤ 140737488351232 → (∀ x ∈ l399, (Lit.int .u8 x).wf = true) → (Lit.int .u16 a402).wf = true → (Lit.int .u8 a403).wf = true → ∃ K, confidantlaw18_TableTurns.f K l399 a402 a403 = some true

noncomputable def C10 : Code := bodyOf Try.f10

/-! ### confidant/confidantlaw18.TableNext: function 10 -/
def confidantlaw18_TableNext.l1 (K : Nat) (a446 : Int) (x1259 : List Int) (a445 : Int) (j1512 : Int → Option Bool) : Nat → Int → Int → Option Bool
  | 0, _, _ => none
  | n + 1, x1538, x1539 => if x1539 ≥ (IntKind.i64.wrap a446) then (lt (fun (x1575 : Int) => (confidantlaw18_TableNext.l1 K a446 x1259 a445 j1512 n x1575 (IntKind.i64.wrap (x1539 - 1)))) fun j1576 => (b1 (table_At.f K x1259 x1539) fun (t1579 : Int) => (if t1579 = (IntKind.i64.wrap (Int.tmod a445 3)) then (j1576 x1539) else (j1576 x1538)))) else (j1512 x1538)
def confidantlaw18_TableNext.l0 (K : Nat) (l442 : List Int) (j1264 : (List Int) → Option Bool) : Nat → (List Int) → Int → Option Bool
  | 0, _, _ => none
  | n + 1, x1323, x1327 => if x1327 < (l442.length : Int) then (if 0 ≤ x1327 then (lt ([IntKind.i64.wrap (Int.tmod (l442.getD x1327.toNat 0) 3)] : List Int) fun l1368 => (if (x1323.length + l1368.length) * 8 ≤ 140737488355328 then (lt (x1323 ++ l1368) fun l1370 => (confidantlaw18_TableNext.l0 K l442 j1264 n l1370 (IntKind.i64.wrap (x1327 + 1)))) else none)) else none) else (j1264 x1323)
def confidantlaw18_TableNext.f (K : Nat) (l442 : List Int) (a445 : Int) (a446 : Int) : Option Bool := b1 (confidantlaw18_known.f K) fun (t1028 : Bool) => (if t1028 = true then (lt (fun (x1039 : Bool) => (if x1039 = true then (some true) else (lt (fun (x1259 : List Int) => (lt (fun (x1511 : Int) => (b1 (table_Next.f K x1259 (IntKind.i64.wrap (Int.tmod a445 3)) (IntKind.i64.wrap a446)) fun (t1582 : Int) => (if t1582 = x1511 then (b1 (table_Next.f K x1259 3 (IntKind.i64.wrap a446)) fun (t1585 : Int) => (if t1585 = (-1) then (if x1511 < 0 then (some true) else (b1 (table_Next.f K x1259 (IntKind.i64.wrap (Int.tmod a445 3)) x1511) fun (t1589 : Int) => (if t1589 = x1511 then (b1 (table_Slots.f K x1259 (IntKind.i64.wrap (Int.tmod a445 3)) x1511 (IntKind.i64.wrap (x1511 + 1))) fun (t1592 : Int) => (some (decide (t1592 = 1)))) else (some false)))) else (some false))) else (some false)))) fun j1512 => (lt (IntKind.i64.wrap ((IntKind.i64.wrap ((IntKind.i64.wrap a446) + (x1259.length : Int))) - 1)) fun y1514 => (confidantlaw18_TableNext.l1 K a446 x1259 a445 j1512 K (-1) y1514)))) fun j1264 => (confidantlaw18_TableNext.l0 K l442 j1264 K ([] : List Int) 0)))) fun j1040 => (if (l442.length : Int) > 40 then (j1040 true) else (j1040 (decide ((l442.length : Int) = 0))))) else (some false))
set_option maxRecDepth 100000 in
theorem confidantlaw18_TableNext.calls {K : Nat} {l442 : List Int} {a445 : Int} {a446 : Int} {A443 : Option Addr} {C444 : Nat} {x1020 : Bool} {B w : World} {os : List Ass} {rs : List Ro} (H : confidantlaw18_TableNext.f K l442 a445 a446 = some x1020) (hS : St B w (os) (Ro.sl (Kd.int .u8) A443 C444 l442 :: rs)) :
    Calls Try.prog 10 [.slice A443 l442.length C444, .int .u8 a445, .int .u16 a446].toArray w (fun en w' => ∃ v, en = .returned v ∧ v = .bool (x1020) ∧ St B w' (os) (Ro.sl (Kd.int .u8) A443 C444 l442 :: rs)) := by
  unfold confidantlaw18_TableNext.f at H
  refine calls_of_EW (args := [.slice A443 l442.length C444, .int .u8 a445, .int .u16 a446]) (c := C10) 93 Try.func10 (by kernel_rfl) (by kernel_rfl) (by kernel_rfl) ?_
  refine EW.seq (x := C10.l) (y := C10.r) (by kernel_rfl) ?_
  refine EW.region (id := 0) (ops := C10.l.ops) (by kernel_rfl) ?_
  refine EL.quick 1 [0, 1, 2] [(0, .slice A443 l442.length C444), (1, .int .u8 a445), (2, .int .u16 a446)] (by kernel_rfl) ?_
  refine EL.done (by kernel_rfl) ?_
  refine EQ.code ?_
  refine EW.seq (x := C10.r.l) (y := C10.r.r) (by kernel_rfl) ?_
  refine EW.seq (x := C10.r.l.l) (y := C10.r.l.r) (by kernel_rfl) ?_
  refine EW.region (id := 1) (ops := C10.r.l.l.ops) (by kernel_rfl) ?_
  obtain ⟨t1028, hc1029, H⟩ := b1_out H
  refine EL.of (EO.callD 31 [] _ 12 (by kernel_rfl) (by kernel_rfl) (by kernel_rfl) (confidantlaw18_known.calls hc1029 hS) ?_)
  rintro v w ⟨rfl, hS⟩
  refine EL.quick 1 [0, 1, 2, 13] [(0, .slice A443 l442.length C444), (1, .int .u8 a445), (2, .int .u16 a446), (13, .bool (!(t1028)))] (by kernel_rfl) ?_
  refine EL.done (by kernel_rfl) ?_
  refine EQ.code ?_
  refine EW.condQ (b := !(t1028)) (o := (.tmp 13)) (x := C10.r.l.r.l) (y := C10.r.l.r.r) (t1028 = true) (false) (by kernel_rfl) (by kernel_rfl) (by constructor <;> intro h <;> simp [h]) (fun h1030 => ?_) (fun h1030 => ?_)
  · rw [if_pos h1030] at H
    refine EW.skip (by kernel_rfl) ?_
    refine EQ.code ?_
    refine EW.seq (x := C10.r.r.l) (y := C10.r.r.r) (by kernel_rfl) ?_
    obtain ⟨j1040, hj1040, H⟩ := lt_out H
    refine EW.cut (x := C10.r.r.l.l) (y := C10.r.r.l.r) (fun a w => ∃ x1039 : Bool, Sat 93 [(0, .slice A443 l442.length C444), (1, .int .u8 a445), (2, .int .u16 a446), (21, .bool (x1039))] a ∧ St B w (os) (Ro.sl (Kd.int .u8) A443 C444 l442 :: rs) ∧ j1040 x1039 = some x1020) (by kernel_rfl) ?_ (fun a w hI => ?_)
    · refine EW.region (id := 3) (ops := C10.r.r.l.l.ops) (by kernel_rfl) ?_
      refine EL.quick 4 [0, 1, 2, 17] [(0, .slice A443 l442.length C444), (1, .int .u8 a445), (2, .int .u16 a446), (17, .bool (decide ((l442.length : Int) > 40)))] (by kernel_rfl) ?_
      by_cases h1041 : (l442.length : Int) > 40
      · rw [if_pos h1041] at H
        refine EL.keep [0, 1, 2, 17] [(0, .slice A443 l442.length C444), (1, .int .u8 a445), (2, .int .u16 a446), (17, .bool (decide ((l442.length : Int) > 40)))] (by kernel_rfl) ?_
        refine EL.as' [(0, .slice A443 l442.length C444), (1, .int .u8 a445), (2, .int .u16 a446), (17, .bool (true))] (by simp only [dec_t h1041, Bool.not_true, Bool.not_false]) ?_
        refine EL.quick 4 [0, 1, 2, 21] [(0, .slice A443 l442.length C444), (1, .int .u8 a445), (2, .int .u16 a446), (21, .bool (true))] (by kernel_rfl) ?_
        refine EL.done (by kernel_rfl) ?_
        refine EQ.to ?_
        refine EQ.keep [0, 1, 2, 21] [(0, .slice A443 l442.length C444), (1, .int .u8 a445), (2, .int .u16 a446), (21, .bool (true))] (by kernel_rfl) ?_
        exact fun a ha => ⟨true, ha, (hS.re [] [] rfl (sub_cons 0 rfl (sub_tail (sub_self)))), H⟩
      · rw [if_neg h1041] at H
        refine EL.keep [0, 1, 2, 17] [(0, .slice A443 l442.length C444), (1, .int .u8 a445), (2, .int .u16 a446), (17, .bool (decide ((l442.length : Int) > 40)))] (by kernel_rfl) ?_
        refine EL.as' [(0, .slice A443 l442.length C444), (1, .int .u8 a445), (2, .int .u16 a446), (17, .bool (false))] (by simp only [dec_f h1041, Bool.not_true, Bool.not_false]) ?_
        refine EL.quick 4 [0, 1, 2, 21] [(0, .slice A443 l442.length C444), (1, .int .u8 a445), (2, .int .u16 a446), (21, .bool (decide ((l442.length : Int) = 0)))] (by kernel_rfl) ?_
        refine EL.done (by kernel_rfl) ?_
        refine EQ.to ?_
        refine EQ.keep [0, 1, 2, 21] [(0, .slice A443 l442.length C444), (1, .int .u8 a445), (2, .int .u16 a446), (21, .bool (decide ((l442.length : Int) = 0)))] (by kernel_rfl) ?_
        exact fun a ha => ⟨decide ((l442.length : Int) = 0), ha, (hS.re [] [] rfl (sub_cons 0 rfl (sub_tail (sub_self)))), H⟩
    · obtain ⟨x1039, ha, hS, H⟩ := hI
      rw [hj1040] at H
      (try dsimp only at H)
      refine EW.at ?_ a ha
      clear ha a
      refine EW.condP' (o := (.tmp 21)) (x := C10.r.r.l.r.l) (y := C10.r.r.l.r.r) (x1039) (by kernel_rfl) (by kernel_rfl) (fun h1042 => ?_) (fun h1042 => ?_)
      · rw [if_pos h1042] at H
        refine EW.seq (x := C10.r.r.l.r.l.l) (y := C10.r.r.l.r.l.r) (by kernel_rfl) ?_
        refine EW.region (id := 4) (ops := C10.r.r.l.r.l.l.ops) (by kernel_rfl) ?_
        refine EL.quick 1 [6] [(6, .bool (true))] (by kernel_rfl) ?_
        refine EL.done (by kernel_rfl) ?_
        refine EQ.code ?_
        refine EW.ret (by kernel_rfl) ?_
        refine EQ.ret ?_
        obtain rfl := Option.some.inj H
        exact EQ.leave (.bool (true)) (by kernel_rfl) ⟨_, rfl, rfl, (hS.re [] [] rfl (sub_self))⟩
      · rw [if_neg h1042] at H
        refine EW.skip (by kernel_rfl) ?_
        refine EQ.code ?_
        refine EW.seq (x := C10.r.r.r.l) (y := C10.r.r.r.r) (by kernel_rfl) ?_
        refine EW.region (id := 5) (ops := C10.r.r.r.l.ops) (by kernel_rfl) ?_
        refine EL.quick 1 [0, 1, 2, 7] [(0, .slice A443 l442.length C444), (1, .int .u8 a445), (2, .int .u16 a446), (7, .slice none ([] : List Int).length 0)] (by kernel_rfl) ?_
        refine EL.done (by kernel_rfl) ?_
        refine EQ.code ?_
        obtain ⟨j1264, hj1264, H⟩ := lt_out H
        refine EW.cut (x := C10.r.r.r.r.l) (y := C10.r.r.r.r.r) (fun a w => ∃ x1259 : List Int, ∃ A1260 : Option Addr, ∃ C1261 : Nat, Sat 93 [(1, .int .u8 a445), (2, .int .u16 a446), (7, .slice A1260 x1259.length C1261)] a ∧ St B w (Ass.own 3 (Kd.int .i64) A1260 C1261 x1259 :: os) (Ro.sl (Kd.int .u8) A443 C444 l442 :: rs) ∧ j1264 x1259 = some x1020) (by kernel_rfl) ?_ (fun a w hI => ?_)
        · refine EW.seq (x := C10.r.r.r.r.l.l) (y := C10.r.r.r.r.l.r) (by kernel_rfl) ?_
          refine EW.region (id := 6) (ops := C10.r.r.r.r.l.l.ops) (by kernel_rfl) ?_
          refine EL.quick 1 [0, 1, 2, 7, 8] [(0, .slice A443 l442.length C444), (1, .int .u8 a445), (2, .int .u16 a446), (7, .slice none ([] : List Int).length 0), (8, .int .i64 0)] (by kernel_rfl) ?_
          refine EL.done (by kernel_rfl) ?_
          refine EQ.code ?_
          refine EW.block (x := C10.r.r.r.r.l.r.l) (id := 0) (by kernel_rfl) ?_
          have hS := St.nilO hS 3 (Kd.int .i64)
          refine EW.loop (x := C10.r.r.r.r.l.r.l.l) (fun n a w => ∃ x1323 : List Int, ∃ x1327 : Int, ∃ A1324 : Option Addr, ∃ C1325 : Nat, Sat 93 [(0, .slice A443 l442.length C444), (1, .int .u8 a445), (2, .int .u16 a446), (7, .slice A1324 x1323.length C1325), (8, .int .i64 x1327)] a ∧ St B w (Ass.own 3 (Kd.int .i64) A1324 C1325 x1323 :: os) (Ro.sl (Kd.int .u8) A443 C444 l442 :: rs) ∧ confidantlaw18_TableNext.l0 K l442 j1264 n x1323 x1327 = some x1020) K (by kernel_rfl) ?_ (fun n a w hI => ?_)
          · refine EQ.keep [0, 1, 2, 7, 8] [(0, .slice A443 l442.length C444), (1, .int .u8 a445), (2, .int .u16 a446), (7, .slice none ([] : List Int).length 0), (8, .int .i64 0)] (by kernel_rfl) ?_
            exact fun a ha => ⟨([] : List Int), 0, none, 0, ha, (hS.re [0] [] rfl (sub_cons 0 rfl (sub_tail (sub_self)))), H⟩
          · obtain ⟨x1323, x1327, A1324, C1325, ha, hS, H⟩ := hI
            obtain _ | n := n
            · simp [confidantlaw18_TableNext.l0] at H
            rw [confidantlaw18_TableNext.l0.eq_2] at H
            refine EW.at ?_ a ha
            clear ha a
            refine EW.seq (x := C10.r.r.r.r.l.r.l.l.l) (y := C10.r.r.r.r.l.r.l.l.r) (by kernel_rfl) ?_
            refine EW.seq (x := C10.r.r.r.r.l.r.l.l.l.l) (y := C10.r.r.r.r.l.r.l.l.l.r) (by kernel_rfl) ?_
            refine EW.region (id := 7) (ops := C10.r.r.r.r.l.r.l.l.l.l.ops) (by kernel_rfl) ?_
            refine EL.quick 4 [0, 1, 2, 7, 8, 25] [(0, .slice A443 l442.length C444), (1, .int .u8 a445), (2, .int .u16 a446), (7, .slice A1324 x1323.length C1325), (8, .int .i64 x1327), (25, .bool (decide (x1327 < (l442.length : Int))))] (by kernel_rfl) ?_
            refine EL.done (by kernel_rfl) ?_
            refine EQ.code ?_
            refine EW.condP (o := (.tmp 25)) (x := C10.r.r.r.r.l.r.l.l.l.r.l) (y := C10.r.r.r.r.l.r.l.l.l.r.r) (x1327 < (l442.length : Int)) (by kernel_rfl) (by kernel_rfl) (fun h1356 => ?_) (fun h1356 => ?_)
            · rw [if_pos h1356] at H
              refine EW.skip (by kernel_rfl) ?_
              refine EQ.code ?_
              refine EW.seq (x := C10.r.r.r.r.l.r.l.l.r.l) (y := C10.r.r.r.r.l.r.l.l.r.r) (by kernel_rfl) ?_
              refine EW.block (x := C10.r.r.r.r.l.r.l.l.r.l.l) (id := 1) (by kernel_rfl) ?_
              refine EW.region (id := 9) (ops := C10.r.r.r.r.l.r.l.l.r.l.l.ops) (by kernel_rfl) ?_
              refine EL.quick 3 [0, 1, 2, 8, 28, 29, 30] [(0, .slice A443 l442.length C444), (1, .int .u8 a445), (2, .int .u16 a446), (8, .int .i64 x1327), (28, .slice A1324 x1323.length C1325), (29, .slice A443 l442.length C444), (30, .int .i64 x1327)] (by kernel_rfl) ?_
              obtain ⟨h1365, H⟩ := ite_in H
              obtain ⟨ad1366, rfl⟩ := St.rd_some hS (Rd.ro 0 rfl) h1365 h1356
              refine EL.of (EO.Y (YO.idx 22 1 ad1366 l442.length C444 .i64 x1327 31 (by kernel_rfl) (by kernel_rfl) (by kernel_rfl) (by kernel_rfl) h1365 h1356) ?_)
              refine EL.of (EO.Y (YO.loadEl hS (Kd.int .u8) ad1366 C444 l442 (Rd.ro 0 rfl) 0 (encI .u8) encI_of x1327 h1365 h1356 5 1 0 1 rfl (.int .u8 (l442.getD x1327.toNat 0)) 32 (by kernel_rfl) (by kernel_rfl) (by kernel_rfl) (by kernel_rfl)) ?_)
              refine EL.quick 2 [0, 1, 2, 8, 28, 34] [(0, .slice (some ad1366) l442.length C444), (1, .int .u8 a445), (2, .int .u16 a446), (8, .int .i64 x1327), (28, .slice A1324 x1323.length C1325), (34, .int .i64 (IntKind.i64.wrap (Int.tmod (l442.getD x1327.toNat 0) 3)))] (by kernel_rfl) ?_
              obtain ⟨l1368, hl1368, H⟩ := lt_out H
              refine EL.of (EO.lit hS (Kd.int .i64) 3 24 1 #[(0, .int .i64 (IntKind.i64.wrap (Int.tmod (l442.getD x1327.toNat 0) 3)))] [.int .i64 (IntKind.i64.wrap (Int.tmod (l442.getD x1327.toNat 0) 3))] l1368 35 (by kernel_rfl) (by kernel_rfl) (by kernel_rfl) (fun _ => (by kernel_rfl)) (by rw [hl1368]; rfl) (by kernel_rfl) (fun w G hr => (by rw [hl1368]; exact ⟨[.int .i64 (IntKind.i64.wrap (Int.tmod (l442.getD x1327.toNat 0) 3))], [], rfl, rfl, rfl⟩)) ?_)
              intro g1367 w hS
              obtain ⟨h1369, H⟩ := ite_in H
              obtain ⟨l1370, hl1370, H⟩ := lt_out H
              refine EL.of (EO.append hS 24 24 3 8 1 (Kd.int .i64) A1324 C1325 x1323 rfl (some ⟨g1367, 0, none⟩) 1 l1368 (Rd.own 0 3 rfl) l1370 hl1370 (fun A1371 C1372 => Ass.own 3 (Kd.int .i64) (some ⟨g1367, 0, none⟩) 1 l1368 :: Ass.own 3 (Kd.int .i64) A1371 C1372 l1370 :: os) 36 (by kernel_rfl) (by kernel_rfl) (by kernel_rfl) (by kernel_rfl) h1369 (fun _ _ => rfl) ?_)
              intro A1371 C1372 w hS
              refine EL.quick 1 [0, 1, 2, 7, 8] [(0, .slice (some ad1366) l442.length C444), (1, .int .u8 a445), (2, .int .u16 a446), (7, .slice A1371 l1370.length C1372), (8, .int .i64 x1327)] (by kernel_rfl) ?_
              refine EL.done (by kernel_rfl) ?_
              refine EQ.pop ?_
              refine EQ.code ?_
              refine EW.region (id := 8) (ops := C10.r.r.r.r.l.r.l.l.r.r.ops) (by kernel_rfl) ?_
              refine EL.quick 3 [0, 1, 2, 7, 8] [(0, .slice (some ad1366) l442.length C444), (1, .int .u8 a445), (2, .int .u16 a446), (7, .slice A1371 l1370.length C1372), (8, .int .i64 (IntKind.i64.wrap (x1327 + 1)))] (by kernel_rfl) ?_
              refine EL.done (by kernel_rfl) ?_
              refine EQ.to ?_
              refine EQ.keep [0, 1, 2, 7, 8] [(0, .slice (some ad1366) l442.length C444), (1, .int .u8 a445), (2, .int .u16 a446), (7, .slice A1371 l1370.length C1372), (8, .int .i64 (IntKind.i64.wrap (x1327 + 1)))] (by kernel_rfl) ?_
              exact fun a ha => ⟨n, Nat.lt_succ_self n, l1370, IntKind.i64.wrap (x1327 + 1), A1371, C1372, ha, (hS.re [1] [1] rfl (sub_cons 0 rfl (sub_tail (sub_self)))), H⟩
            · rw [if_neg h1356] at H
              refine EW.exit (id := 0) (by kernel_rfl) ?_
              refine EQ.exitCode ?_
              refine EQ.exitTo ?_
              refine EQ.exitHere ?_
              refine EQ.to ?_
              refine EQ.keep [1, 2, 7] [(1, .int .u8 a445), (2, .int .u16 a446), (7, .slice A1324 x1323.length C1325)] (by kernel_rfl) ?_
              exact fun a ha => ⟨x1323, A1324, C1325, ha, (hS.re [0] [] rfl (sub_cons 0 rfl (sub_tail (sub_self)))), H⟩
        · obtain ⟨x1259, A1260, C1261, ha, hS, H⟩ := hI
          rw [hj1264] at H
          (try dsimp only at H)
          refine EW.at ?_ a ha
          clear ha a
          refine EW.seq (x := C10.r.r.r.r.r.l) (y := C10.r.r.r.r.r.r) (by kernel_rfl) ?_
          refine EW.region (id := 10) (ops := C10.r.r.r.r.r.l.ops) (by kernel_rfl) ?_
          refine EL.quick 4 [2, 7, 9] [(2, .int .u16 a446), (7, .slice A1260 x1259.length C1261), (9, .int .i64 (IntKind.i64.wrap (Int.tmod a445 3)))] (by kernel_rfl) ?_
          refine EL.done (by kernel_rfl) ?_
          refine EQ.code ?_
          refine EW.seq (x := C10.r.r.r.r.r.r.l) (y := C10.r.r.r.r.r.r.r) (by kernel_rfl) ?_
          refine EW.region (id := 11) (ops := C10.r.r.r.r.r.r.l.ops) (by kernel_rfl) ?_
          refine EL.quick 1 [2, 7, 9, 10] [(2, .int .u16 a446), (7, .slice A1260 x1259.length C1261), (9, .int .i64 (IntKind.i64.wrap (Int.tmod a445 3))), (10, .int .i64 (-1))] (by kernel_rfl) ?_
          refine EL.done (by kernel_rfl) ?_
          refine EQ.code ?_
          obtain ⟨j1512, hj1512, H⟩ := lt_out H
          refine EW.cut (x := C10.r.r.r.r.r.r.r.l) (y := C10.r.r.r.r.r.r.r.r) (fun a w => ∃ x1511 : Int, Sat 93 [(2, .int .u16 a446), (7, .slice A1260 x1259.length C1261), (9, .int .i64 (IntKind.i64.wrap (Int.tmod a445 3))), (10, .int .i64 x1511)] a ∧ St B w (Ass.own 3 (Kd.int .i64) A1260 C1261 x1259 :: os) (Ro.sl (Kd.int .u8) A443 C444 l442 :: rs) ∧ j1512 x1511 = some x1020) (by kernel_rfl) ?_ (fun a w hI => ?_)
          · refine EW.seq (x := C10.r.r.r.r.r.r.r.l.l) (y := C10.r.r.r.r.r.r.r.l.r) (by kernel_rfl) ?_
            refine EW.region (id := 12) (ops := C10.r.r.r.r.r.r.r.l.l.ops) (by kernel_rfl) ?_
            refine EL.quick 7 [2, 7, 9, 10, 11] [(2, .int .u16 a446), (7, .slice A1260 x1259.length C1261), (9, .int .i64 (IntKind.i64.wrap (Int.tmod a445 3))), (10, .int .i64 (-1)), (11, .int .i64 (IntKind.i64.wrap ((IntKind.i64.wrap ((IntKind.i64.wrap a446) + (x1259.length : Int))) - 1)))] (by kernel_rfl) ?_
            obtain ⟨y1514, hy1514, H⟩ := lt_out H
            refine EL.keep [2, 7, 9, 10, 11] [(2, .int .u16 a446), (7, .slice A1260 x1259.length C1261), (9, .int .i64 (IntKind.i64.wrap (Int.tmod a445 3))), (10, .int .i64 (-1)), (11, .int .i64 (IntKind.i64.wrap ((IntKind.i64.wrap ((IntKind.i64.wrap a446) + (x1259.length : Int))) - 1)))] (by kernel_rfl) ?_
            refine EL.as' [(2, .int .u16 a446), (7, .slice A1260 x1259.length C1261), (9, .int .i64 (IntKind.i64.wrap (Int.tmod a445 3))), (10, .int .i64 (-1)), (11, .int .i64 y1514)] (by subst hy1514; rfl) ?_
            refine EL.done (by kernel_rfl) ?_
            refine EQ.code ?_
            refine EW.block (x := C10.r.r.r.r.r.r.r.l.r.l) (id := 2) (by kernel_rfl) ?_
            refine EW.loop (x := C10.r.r.r.r.r.r.r.l.r.l.l) (fun n a w => ∃ x1538 : Int, ∃ x1539 : Int, Sat 93 [(2, .int .u16 a446), (7, .slice A1260 x1259.length C1261), (9, .int .i64 (IntKind.i64.wrap (Int.tmod a445 3))), (10, .int .i64 x1538), (11, .int .i64 x1539)] a ∧ St B w (Ass.own 3 (Kd.int .i64) A1260 C1261 x1259 :: os) (Ro.sl (Kd.int .u8) A443 C444 l442 :: rs) ∧ confidantlaw18_TableNext.l1 K a446 x1259 a445 j1512 n x1538 x1539 = some x1020) K (by kernel_rfl) ?_ (fun n a w hI => ?_)
            · refine EQ.keep [2, 7, 9, 10, 11] [(2, .int .u16 a446), (7, .slice A1260 x1259.length C1261), (9, .int .i64 (IntKind.i64.wrap (Int.tmod a445 3))), (10, .int .i64 (-1)), (11, .int .i64 y1514)] (by kernel_rfl) ?_
              exact fun a ha => ⟨(-1), y1514, ha, (hS.re [0] [] rfl (sub_cons 0 rfl (sub_tail (sub_self)))), H⟩
            · obtain ⟨x1538, x1539, ha, hS, H⟩ := hI
              obtain _ | n := n
              · simp [confidantlaw18_TableNext.l1] at H
              rw [confidantlaw18_TableNext.l1.eq_2] at H
              refine EW.at ?_ a ha
              clear ha a
              refine EW.seq (x := C10.r.r.r.r.r.r.r.l.r.l.l.l) (y := C10.r.r.r.r.r.r.r.l.r.l.l.r) (by kernel_rfl) ?_
              refine EW.seq (x := C10.r.r.r.r.r.r.r.l.r.l.l.l.l) (y := C10.r.r.r.r.r.r.r.l.r.l.l.l.r) (by kernel_rfl) ?_
              refine EW.region (id := 13) (ops := C10.r.r.r.r.r.r.r.l.r.l.l.l.l.ops) (by kernel_rfl) ?_
              refine EL.quick 4 [2, 7, 9, 10, 11, 49] [(2, .int .u16 a446), (7, .slice A1260 x1259.length C1261), (9, .int .i64 (IntKind.i64.wrap (Int.tmod a445 3))), (10, .int .i64 x1538), (11, .int .i64 x1539), (49, .bool (decide (x1539 ≥ (IntKind.i64.wrap a446))))] (by kernel_rfl) ?_
              refine EL.done (by kernel_rfl) ?_
              refine EQ.code ?_
              refine EW.condP (o := (.tmp 49)) (x := C10.r.r.r.r.r.r.r.l.r.l.l.l.r.l) (y := C10.r.r.r.r.r.r.r.l.r.l.l.l.r.r) (x1539 ≥ (IntKind.i64.wrap a446)) (by kernel_rfl) (by kernel_rfl) (fun h1564 => ?_) (fun h1564 => ?_)
              · rw [if_pos h1564] at H
                refine EW.skip (by kernel_rfl) ?_
                refine EQ.code ?_
                obtain ⟨j1576, hj1576, H⟩ := lt_out H
                refine EW.cut (x := C10.r.r.r.r.r.r.r.l.r.l.l.r.l) (y := C10.r.r.r.r.r.r.r.l.r.l.l.r.r) (fun a w => ∃ x1575 : Int, Sat 93 [(2, .int .u16 a446), (7, .slice A1260 x1259.length C1261), (9, .int .i64 (IntKind.i64.wrap (Int.tmod a445 3))), (10, .int .i64 x1575), (11, .int .i64 x1539)] a ∧ St B w (Ass.own 3 (Kd.int .i64) A1260 C1261 x1259 :: os) (Ro.sl (Kd.int .u8) A443 C444 l442 :: rs) ∧ j1576 x1575 = some x1020) (by kernel_rfl) ?_ (fun a w hI => ?_)
                · refine EW.block (x := C10.r.r.r.r.r.r.r.l.r.l.l.r.l.l) (id := 3) (by kernel_rfl) ?_
                  refine EW.seq (x := C10.r.r.r.r.r.r.r.l.r.l.l.r.l.l.l) (y := C10.r.r.r.r.r.r.r.l.r.l.l.r.l.l.r) (by kernel_rfl) ?_
                  refine EW.region (id := 15) (ops := C10.r.r.r.r.r.r.r.l.r.l.l.r.l.l.l.ops) (by kernel_rfl) ?_
                  refine EL.quick 2 [2, 7, 9, 10, 11, 52, 53] [(2, .int .u16 a446), (7, .slice A1260 x1259.length C1261), (9, .int .i64 (IntKind.i64.wrap (Int.tmod a445 3))), (10, .int .i64 x1538), (11, .int .i64 x1539), (52, .slice A1260 x1259.length C1261), (53, .int .i64 x1539)] (by kernel_rfl) ?_
                  obtain ⟨t1579, hc1580, H⟩ := b1_out H
                  refine EL.of (EO.callD 36 [.slice A1260 x1259.length C1261, .int .i64 x1539] _ 54 (by kernel_rfl) (by kernel_rfl) (by kernel_rfl) (table_At.calls hc1580 (hS.lend [Ro.sl (Kd.int .i64) A1260 C1261 x1259] ⟨Lent.own 0 rfl, trivial⟩)) ?_)
                  rintro v w ⟨rfl, hL⟩
                  have hS : St B w (Ass.own 3 (Kd.int .i64) A1260 C1261 x1259 :: os) (Ro.sl (Kd.int .u8) A443 C444 l442 :: rs) := hS.borrow hL trivial
                  refine EL.quick 2 [2, 7, 9, 10, 11, 56] [(2, .int .u16 a446), (7, .slice A1260 x1259.length C1261), (9, .int .i64 (IntKind.i64.wrap (Int.tmod a445 3))), (10, .int .i64 x1538), (11, .int .i64 x1539), (56, .bool (decide (t1579 = (IntKind.i64.wrap (Int.tmod a445 3)))))] (by kernel_rfl) ?_
                  refine EL.done (by kernel_rfl) ?_
                  refine EQ.code ?_
                  refine EW.condP (o := (.tmp 56)) (x := C10.r.r.r.r.r.r.r.l.r.l.l.r.l.l.r.l) (y := C10.r.r.r.r.r.r.r.l.r.l.l.r.l.l.r.r) (t1579 = (IntKind.i64.wrap (Int.tmod a445 3))) (by kernel_rfl) (by kernel_rfl) (fun h1581 => ?_) (fun h1581 => ?_)
                  · rw [if_pos h1581] at H
                    refine EW.region (id := 16) (ops := C10.r.r.r.r.r.r.r.l.r.l.l.r.l.l.r.l.ops) (by kernel_rfl) ?_
                    refine EL.quick 2 [2, 7, 9, 10, 11] [(2, .int .u16 a446), (7, .slice A1260 x1259.length C1261), (9, .int .i64 (IntKind.i64.wrap (Int.tmod a445 3))), (10, .int .i64 x1539), (11, .int .i64 x1539)] (by kernel_rfl) ?_
                    refine EL.done (by kernel_rfl) ?_
                    refine EQ.pop ?_
                    refine EQ.to ?_
                    refine EQ.keep [2, 7, 9, 10, 11] [(2, .int .u16 a446), (7, .slice A1260 x1259.length C1261), (9, .int .i64 (IntKind.i64.wrap (Int.tmod a445 3))), (10, .int .i64 x1539), (11, .int .i64 x1539)] (by kernel_rfl) ?_
                    exact fun a ha => ⟨x1539, ha, (hS.re [0] [] rfl (sub_cons 0 rfl (sub_tail (sub_self)))), H⟩
                  · rw [if_neg h1581] at H
                    refine EW.skip (by kernel_rfl) ?_
                    refine EQ.pop ?_
                    refine EQ.to ?_
                    refine EQ.keep [2, 7, 9, 10, 11] [(2, .int .u16 a446), (7, .slice A1260 x1259.length C1261), (9, .int .i64 (IntKind.i64.wrap (Int.tmod a445 3))), (10, .int .i64 x1538), (11, .int .i64 x1539)] (by kernel_rfl) ?_
                    exact fun a ha => ⟨x1538, ha, (hS.re [0] [] rfl (sub_cons 0 rfl (sub_tail (sub_self)))), H⟩
                · obtain ⟨x1575, ha, hS, H⟩ := hI
                  rw [hj1576] at H
                  (try dsimp only at H)
                  refine EW.at ?_ a ha
                  clear ha a
                  refine EW.region (id := 14) (ops := C10.r.r.r.r.r.r.r.l.r.l.l.r.r.ops) (by kernel_rfl) ?_
                  refine EL.quick 3 [2, 7, 9, 10, 11] [(2, .int .u16 a446), (7, .slice A1260 x1259.length C1261), (9, .int .i64 (IntKind.i64.wrap (Int.tmod a445 3))), (10, .int .i64 x1575), (11, .int .i64 (IntKind.i64.wrap (x1539 - 1)))] (by kernel_rfl) ?_
                  refine EL.done (by kernel_rfl) ?_
                  refine EQ.to ?_
                  refine EQ.keep [2, 7, 9, 10, 11] [(2, .int .u16 a446), (7, .slice A1260 x1259.length C1261), (9, .int .i64 (IntKind.i64.wrap (Int.tmod a445 3))), (10, .int .i64 x1575), (11, .int .i64 (IntKind.i64.wrap (x1539 - 1)))] (by kernel_rfl) ?_
                  exact fun a ha => ⟨n, Nat.lt_succ_self n, x1575, IntKind.i64.wrap (x1539 - 1), ha, (hS.re [0] [] rfl (sub_cons 0 rfl (sub_tail (sub_self)))), H⟩
              · rw [if_neg h1564] at H
                refine EW.exit (id := 2) (by kernel_rfl) ?_
                refine EQ.exitCode ?_
                refine EQ.exitTo ?_
                refine EQ.exitHere ?_
                refine EQ.to ?_
                refine EQ.keep [2, 7, 9, 10] [(2, .int .u16 a446), (7, .slice A1260 x1259.length C1261), (9, .int .i64 (IntKind.i64.wrap (Int.tmod a445 3))), (10, .int .i64 x1538)] (by kernel_rfl) ?_
                exact fun a ha => ⟨x1538, ha, (hS.re [0] [] rfl (sub_cons 0 rfl (sub_tail (sub_self)))), H⟩
          · obtain ⟨x1511, ha, hS, H⟩ := hI
            rw [hj1512] at H
            (try dsimp only at H)
            refine EW.at ?_ a ha
            clear ha a
            refine EW.seq (x := C10.r.r.r.r.r.r.r.r.l) (y := C10.r.r.r.r.r.r.r.r.r) (by kernel_rfl) ?_
            refine EW.region (id := 17) (ops := C10.r.r.r.r.r.r.r.r.l.ops) (by kernel_rfl) ?_
            refine EL.quick 4 [2, 7, 9, 10, 58, 59, 61] [(2, .int .u16 a446), (7, .slice A1260 x1259.length C1261), (9, .int .i64 (IntKind.i64.wrap (Int.tmod a445 3))), (10, .int .i64 x1511), (58, .slice A1260 x1259.length C1261), (59, .int .i64 (IntKind.i64.wrap (Int.tmod a445 3))), (61, .int .i64 (IntKind.i64.wrap a446))] (by kernel_rfl) ?_
            obtain ⟨t1582, hc1583, H⟩ := b1_out H
            refine EL.of (EO.callD 38 [.slice A1260 x1259.length C1261, .int .i64 (IntKind.i64.wrap (Int.tmod a445 3)), .int .i64 (IntKind.i64.wrap a446)] _ 62 (by kernel_rfl) (by kernel_rfl) (by kernel_rfl) (table_Next.calls hc1583 (hS.lend [Ro.sl (Kd.int .i64) A1260 C1261 x1259] ⟨Lent.own 0 rfl, trivial⟩)) ?_)
            rintro v w ⟨rfl, hL⟩
            have hS : St B w (Ass.own 3 (Kd.int .i64) A1260 C1261 x1259 :: os) (Ro.sl (Kd.int .u8) A443 C444 l442 :: rs) := hS.borrow hL trivial
            refine EL.quick 3 [2, 7, 9, 10, 65] [(2, .int .u16 a446), (7, .slice A1260 x1259.length C1261), (9, .int .i64 (IntKind.i64.wrap (Int.tmod a445 3))), (10, .int .i64 x1511), (65, .bool (decide (t1582 = x1511)))] (by kernel_rfl) ?_
            by_cases h1584 : t1582 = x1511
            · rw [if_pos h1584] at H
              refine EL.keep [2, 7, 9, 10, 65] [(2, .int .u16 a446), (7, .slice A1260 x1259.length C1261), (9, .int .i64 (IntKind.i64.wrap (Int.tmod a445 3))), (10, .int .i64 x1511), (65, .bool (decide (t1582 = x1511)))] (by kernel_rfl) ?_
              refine EL.as' [(2, .int .u16 a446), (7, .slice A1260 x1259.length C1261), (9, .int .i64 (IntKind.i64.wrap (Int.tmod a445 3))), (10, .int .i64 x1511), (65, .bool (true))] (by simp only [dec_t h1584, Bool.not_true, Bool.not_false]) ?_
              refine EL.quick 3 [7, 9, 10, 65, 66, 68] [(7, .slice A1260 x1259.length C1261), (9, .int .i64 (IntKind.i64.wrap (Int.tmod a445 3))), (10, .int .i64 x1511), (65, .bool (true)), (66, .slice A1260 x1259.length C1261), (68, .int .i64 (IntKind.i64.wrap a446))] (by kernel_rfl) ?_
              obtain ⟨t1585, hc1586, H⟩ := b1_out H
              refine EL.of (EO.callD 38 [.slice A1260 x1259.length C1261, .int .i64 3, .int .i64 (IntKind.i64.wrap a446)] _ 69 (by kernel_rfl) (by kernel_rfl) (by kernel_rfl) (table_Next.calls hc1586 (hS.lend [Ro.sl (Kd.int .i64) A1260 C1261 x1259] ⟨Lent.own 0 rfl, trivial⟩)) ?_)
              rintro v w ⟨rfl, hL⟩
              have hS : St B w (Ass.own 3 (Kd.int .i64) A1260 C1261 x1259 :: os) (Ro.sl (Kd.int .u8) A443 C444 l442 :: rs) := hS.borrow hL trivial
              refine EL.quick 3 [7, 9, 10, 72] [(7, .slice A1260 x1259.length C1261), (9, .int .i64 (IntKind.i64.wrap (Int.tmod a445 3))), (10, .int .i64 x1511), (72, .bool (decide (t1585 = (-1))))] (by kernel_rfl) ?_
              by_cases h1587 : t1585 = (-1)
              · rw [if_pos h1587] at H
                refine EL.keep [7, 9, 10, 72] [(7, .slice A1260 x1259.length C1261), (9, .int .i64 (IntKind.i64.wrap (Int.tmod a445 3))), (10, .int .i64 x1511), (72, .bool (decide (t1585 = (-1))))] (by kernel_rfl) ?_
                refine EL.as' [(7, .slice A1260 x1259.length C1261), (9, .int .i64 (IntKind.i64.wrap (Int.tmod a445 3))), (10, .int .i64 x1511), (72, .bool (true))] (by simp only [dec_t h1587, Bool.not_true, Bool.not_false]) ?_
                refine EL.quick 3 [7, 9, 10, 72, 75] [(7, .slice A1260 x1259.length C1261), (9, .int .i64 (IntKind.i64.wrap (Int.tmod a445 3))), (10, .int .i64 x1511), (72, .bool (true)), (75, .bool (decide (x1511 < 0)))] (by kernel_rfl) ?_
                by_cases h1588 : x1511 < 0
                · rw [if_pos h1588] at H
                  refine EL.keep [7, 9, 10, 72, 75] [(7, .slice A1260 x1259.length C1261), (9, .int .i64 (IntKind.i64.wrap (Int.tmod a445 3))), (10, .int .i64 x1511), (72, .bool (true)), (75, .bool (decide (x1511 < 0)))] (by kernel_rfl) ?_
                  refine EL.as' [(7, .slice A1260 x1259.length C1261), (9, .int .i64 (IntKind.i64.wrap (Int.tmod a445 3))), (10, .int .i64 x1511), (72, .bool (true)), (75, .bool (true))] (by simp only [dec_t h1588, Bool.not_true, Bool.not_false]) ?_
                  refine EL.quick 18 [6] [(6, .bool (true))] (by kernel_rfl) ?_
                  refine EL.done (by kernel_rfl) ?_
                  refine EQ.code ?_
                  refine EW.ret (by kernel_rfl) ?_
                  obtain rfl := Option.some.inj H
                  exact EQ.leave (.bool (true)) (by kernel_rfl) ⟨_, rfl, rfl, (hS.re [] [0] rfl (sub_self))⟩
                · rw [if_neg h1588] at H
                  refine EL.keep [7, 9, 10, 72, 75] [(7, .slice A1260 x1259.length C1261), (9, .int .i64 (IntKind.i64.wrap (Int.tmod a445 3))), (10, .int .i64 x1511), (72, .bool (true)), (75, .bool (decide (x1511 < 0)))] (by kernel_rfl) ?_
                  refine EL.as' [(7, .slice A1260 x1259.length C1261), (9, .int .i64 (IntKind.i64.wrap (Int.tmod a445 3))), (10, .int .i64 x1511), (72, .bool (true)), (75, .bool (false))] (by simp only [dec_f h1588, Bool.not_true, Bool.not_false]) ?_
                  refine EL.quick 3 [7, 9, 10, 72, 75, 76, 77, 78] [(7, .slice A1260 x1259.length C1261), (9, .int .i64 (IntKind.i64.wrap (Int.tmod a445 3))), (10, .int .i64 x1511), (72, .bool (true)), (75, .bool (false)), (76, .slice A1260 x1259.length C1261), (77, .int .i64 (IntKind.i64.wrap (Int.tmod a445 3))), (78, .int .i64 x1511)] (by kernel_rfl) ?_
                  obtain ⟨t1589, hc1590, H⟩ := b1_out H
                  refine EL.of (EO.callD 38 [.slice A1260 x1259.length C1261, .int .i64 (IntKind.i64.wrap (Int.tmod a445 3)), .int .i64 x1511] _ 79 (by kernel_rfl) (by kernel_rfl) (by kernel_rfl) (table_Next.calls hc1590 (hS.lend [Ro.sl (Kd.int .i64) A1260 C1261 x1259] ⟨Lent.own 0 rfl, trivial⟩)) ?_)
                  rintro v w ⟨rfl, hL⟩
                  have hS : St B w (Ass.own 3 (Kd.int .i64) A1260 C1261 x1259 :: os) (Ro.sl (Kd.int .u8) A443 C444 l442 :: rs) := hS.borrow hL trivial
                  refine EL.quick 3 [7, 9, 10, 72, 75, 82] [(7, .slice A1260 x1259.length C1261), (9, .int .i64 (IntKind.i64.wrap (Int.tmod a445 3))), (10, .int .i64 x1511), (72, .bool (true)), (75, .bool (false)), (82, .bool (decide (t1589 = x1511)))] (by kernel_rfl) ?_
                  by_cases h1591 : t1589 = x1511
                  · rw [if_pos h1591] at H
                    refine EL.keep [7, 9, 10, 72, 75, 82] [(7, .slice A1260 x1259.length C1261), (9, .int .i64 (IntKind.i64.wrap (Int.tmod a445 3))), (10, .int .i64 x1511), (72, .bool (true)), (75, .bool (false)), (82, .bool (decide (t1589 = x1511)))] (by kernel_rfl) ?_
                    refine EL.as' [(7, .slice A1260 x1259.length C1261), (9, .int .i64 (IntKind.i64.wrap (Int.tmod a445 3))), (10, .int .i64 x1511), (72, .bool (true)), (75, .bool (false)), (82, .bool (true))] (by simp only [dec_t h1591, Bool.not_true, Bool.not_false]) ?_
                    refine EL.quick 5 [72, 75, 82, 83, 84, 85, 87] [(72, .bool (true)), (75, .bool (false)), (82, .bool (true)), (83, .slice A1260 x1259.length C1261), (84, .int .i64 (IntKind.i64.wrap (Int.tmod a445 3))), (85, .int .i64 x1511), (87, .int .i64 (IntKind.i64.wrap (x1511 + 1)))] (by kernel_rfl) ?_
                    obtain ⟨t1592, hc1593, H⟩ := b1_out H
                    refine EL.of (EO.callD 40 [.slice A1260 x1259.length C1261, .int .i64 (IntKind.i64.wrap (Int.tmod a445 3)), .int .i64 x1511, .int .i64 (IntKind.i64.wrap (x1511 + 1))] _ 88 (by kernel_rfl) (by kernel_rfl) (by kernel_rfl) (table_Slots.calls hc1593 (hS.lend [Ro.sl (Kd.int .i64) A1260 C1261 x1259] ⟨Lent.own 0 rfl, trivial⟩)) ?_)
                    rintro v w ⟨rfl, hL⟩
                    have hS : St B w (Ass.own 3 (Kd.int .i64) A1260 C1261 x1259 :: os) (Ro.sl (Kd.int .u8) A443 C444 l442 :: rs) := hS.borrow hL trivial
                    refine EL.quick 5 [6] [(6, .bool (decide (t1592 = 1)))] (by kernel_rfl) ?_
                    refine EL.done (by kernel_rfl) ?_
                    refine EQ.code ?_
                    refine EW.ret (by kernel_rfl) ?_
                    obtain rfl := Option.some.inj H
                    exact EQ.leave (.bool (decide (t1592 = 1))) (by kernel_rfl) ⟨_, rfl, rfl, (hS.re [] [0] rfl (sub_self))⟩
                  · rw [if_neg h1591] at H
                    refine EL.keep [7, 9, 10, 72, 75, 82] [(7, .slice A1260 x1259.length C1261), (9, .int .i64 (IntKind.i64.wrap (Int.tmod a445 3))), (10, .int .i64 x1511), (72, .bool (true)), (75, .bool (false)), (82, .bool (decide (t1589 = x1511)))] (by kernel_rfl) ?_
                    refine EL.as' [(7, .slice A1260 x1259.length C1261), (9, .int .i64 (IntKind.i64.wrap (Int.tmod a445 3))), (10, .int .i64 x1511), (72, .bool (true)), (75, .bool (false)), (82, .bool (false))] (by simp only [dec_f h1591, Bool.not_true, Bool.not_false]) ?_
                    refine EL.quick 11 [6] [(6, .bool (false))] (by kernel_rfl) ?_
                    refine EL.done (by kernel_rfl) ?_
                    refine EQ.code ?_
                    refine EW.ret (by kernel_rfl) ?_
                    obtain rfl := Option.some.inj H
                    exact EQ.leave (.bool (false)) (by kernel_rfl) ⟨_, rfl, rfl, (hS.re [] [0] rfl (sub_self))⟩
              · rw [if_neg h1587] at H
                refine EL.keep [7, 9, 10, 72] [(7, .slice A1260 x1259.length C1261), (9, .int .i64 (IntKind.i64.wrap (Int.tmod a445 3))), (10, .int .i64 x1511), (72, .bool (decide (t1585 = (-1))))] (by kernel_rfl) ?_
                refine EL.as' [(7, .slice A1260 x1259.length C1261), (9, .int .i64 (IntKind.i64.wrap (Int.tmod a445 3))), (10, .int .i64 x1511), (72, .bool (false))] (by simp only [dec_f h1587, Bool.not_true, Bool.not_false]) ?_
                refine EL.quick 21 [6] [(6, .bool (false))] (by kernel_rfl) ?_
                refine EL.done (by kernel_rfl) ?_
                refine EQ.code ?_
                refine EW.ret (by kernel_rfl) ?_
                obtain rfl := Option.some.inj H
                exact EQ.leave (.bool (false)) (by kernel_rfl) ⟨_, rfl, rfl, (hS.re [] [0] rfl (sub_self))⟩
            · rw [if_neg h1584] at H
              refine EL.keep [2, 7, 9, 10, 65] [(2, .int .u16 a446), (7, .slice A1260 x1259.length C1261), (9, .int .i64 (IntKind.i64.wrap (Int.tmod a445 3))), (10, .int .i64 x1511), (65, .bool (decide (t1582 = x1511)))] (by kernel_rfl) ?_
              refine EL.as' [(2, .int .u16 a446), (7, .slice A1260 x1259.length C1261), (9, .int .i64 (IntKind.i64.wrap (Int.tmod a445 3))), (10, .int .i64 x1511), (65, .bool (false))] (by simp only [dec_f h1584, Bool.not_true, Bool.not_false]) ?_
              refine EL.quick 28 [6] [(6, .bool (false))] (by kernel_rfl) ?_
              refine EL.done (by kernel_rfl) ?_
              refine EQ.code ?_
              refine EW.ret (by kernel_rfl) ?_
              obtain rfl := Option.some.inj H
              exact EQ.leave (.bool (false)) (by kernel_rfl) ⟨_, rfl, rfl, (hS.re [] [0] rfl (sub_self))⟩
  · rw [if_neg h1030] at H
    refine EW.seq (x := C10.r.l.r.l.l) (y := C10.r.l.r.l.r) (by kernel_rfl) ?_
    refine EW.region (id := 2) (ops := C10.r.l.r.l.l.ops) (by kernel_rfl) ?_
    refine EL.quick 1 [6] [(6, .bool (false))] (by kernel_rfl) ?_
    refine EL.done (by kernel_rfl) ?_
    refine EQ.code ?_
    refine EW.ret (by kernel_rfl) ?_
    refine EQ.ret ?_
    obtain rfl := Option.some.inj H
    exact EQ.leave (.bool (false)) (by kernel_rfl) ⟨_, rfl, rfl, (hS.re [] [] rfl (sub_self))⟩

def confidantlaw18_TableNext.Pure : Prop := ∀ (l442 : List Int) (a445 : Int) (a446 : Int), l442.length * 1 ≤ 140737488351232 → (∀ x ∈ l442, (Lit.int .u8 x).wf = true) → (Lit.int .u8 a445).wf = true → (Lit.int .u16 a446).wf = true → ∃ K, confidantlaw18_TableNext.f K l442 a445 a446 = some true

end Go.Proofs.Ytjfnejcanlkknaa.G
