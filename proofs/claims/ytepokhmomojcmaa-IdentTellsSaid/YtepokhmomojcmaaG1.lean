import Derived.Test.YtepokhmomojcmaaG0
namespace Go.Proofs.Ytepokhmomojcmaa.G
open Go Go.Fw Go.RowKit Go.Proofs
set_option linter.unusedVariables false
set_option linter.unusedSimpArgs false

/-! ### confidant/confidantlaw11.IdentTells: function 7 -/
def confidantlaw11_IdentTells.l1 (K : Nat) (l2301 : List Int) (a9 : Int) (a10 : Int) : Nat → Int → Option Bool
  | 0, _ => none
  | n + 1, x2426 => if x2426 < (l2301.length : Int) then (if 0 ≤ x2426 then (lt (fun (x2659 : Bool) => (if x2659 = true then (some false) else (confidantlaw11_IdentTells.l1 K l2301 a9 a10 n (IntKind.i64.wrap (x2426 + 1))))) fun j2660 => (b1 (ident_Label.f K (l2301.getD x2426.toNat 0)) fun (t2661 : Int) => (b1 (confidantref9_Label.f K (l2301.getD x2426.toNat 0)) fun (t2663 : Int) => (if t2661 = t2663 then (b1 (ident_Number.f K (l2301.getD x2426.toNat 0)) fun (t2666 : Int) => (b1 (confidantref9_Number.f K (l2301.getD x2426.toNat 0)) fun (t2668 : Int) => (if t2666 = t2668 then (b1 (ident_Valid.f K (l2301.getD x2426.toNat 0) a9) fun (t2671 : Bool) => (b1 (confidantref9_Valid.f K (l2301.getD x2426.toNat 0) a9) fun (t2673 : Bool) => (if (t2671 == t2673) = true then (b1 (ident_Valid.f K (l2301.getD x2426.toNat 0) (IntKind.i64.wrap (Int.tmod a10 20))) fun (t2676 : Bool) => (b1 (confidantref9_Valid.f K (l2301.getD x2426.toNat 0) (IntKind.i64.wrap (Int.tmod a10 20))) fun (t2678 : Bool) => (j2660 (!((t2676 == t2678)))))) else (j2660 true)))) else (j2660 true)))) else (j2660 true))))) else none) else (some true)
def confidantlaw11_IdentTells.l0 (K : Nat) (l2032 : List S35) (j2028 : (List S35) → Option Bool) : Nat → Int → Option Bool
  | 0, _ => none
  | n + 1, x2119 => if x2119 < (l2032.length : Int) then (if 0 ≤ x2119 then (b2 (ident_Of.f K ((l2032.getD x2119.toNat zS35).f0) ((l2032.getD x2119.toNat zS35).f1)) fun (t2262 : Int) (t2263 : Bool) => (b2 (confidantref9_Of.f K ((l2032.getD x2119.toNat zS35).f0) ((l2032.getD x2119.toNat zS35).f1)) fun (t2268 : Int) (t2269 : Bool) => (lt (fun (x2287 : Bool) => (if x2287 = true then (some false) else (confidantlaw11_IdentTells.l0 K l2032 j2028 n (IntKind.i64.wrap (x2119 + 1))))) fun j2288 => (if t2262 = t2268 then (if (t2263 == t2269) = true then (if t2263 = true then (b1 (ident_Label.f K t2262) fun (t2292 : Int) => (if t2292 = ((l2032.getD x2119.toNat zS35).f0) then (b1 (ident_Number.f K t2262) fun (t2295 : Int) => (j2288 (!(decide (t2295 = ((l2032.getD x2119.toNat zS35).f1)))))) else (j2288 true))) else (j2288 false)) else (j2288 true)) else (j2288 true))))) else none) else (j2028 l2032)
def confidantlaw11_IdentTells.f (K : Nat) (a6 : Int) (a7 : Int) (a8 : Int) (a9 : Int) (a10 : Int) : Option Bool := b1 (confidantlaw11_known.f K) fun (t1484 : Bool) => (if t1484 = true then (lt (fun (x2025 : List S35) => (lt ([a6, bA .i32 a6 2097151, IntKind.i32.wrap (0 - a6)] : List Int) fun l2301 => (confidantlaw11_IdentTells.l1 K l2301 a9 a10 K 0))) fun j2028 => (lt ([(⟨a7, a8⟩ : S35), (⟨bA .i64 a7 31, bA .i64 a8 131071⟩ : S35), (⟨IntKind.i64.wrap (Int.tmod a10 18), bA .i64 a8 65535⟩ : S35)] : List S35) fun l2032 => (confidantlaw11_IdentTells.l0 K l2032 j2028 K 0))) else (some false))
set_option maxRecDepth 100000 in
theorem confidantlaw11_IdentTells.calls {K : Nat} {a6 : Int} {a7 : Int} {a8 : Int} {a9 : Int} {a10 : Int} {x1476 : Bool} {B w : World} {os : List Ass} {rs : List Ro} (H : confidantlaw11_IdentTells.f K a6 a7 a8 a9 a10 = some x1476) (hS : St B w (os) (rs)) :
    Calls Try.prog 7 [.int .i32 a6, .int .i64 a7, .int .i64 a8, .int .i64 a9, .int .u8 a10].toArray w (fun en w' => ∃ v, en = .returned v ∧ v = .bool (x1476) ∧ St B w' (os) (rs)) := by
  unfold confidantlaw11_IdentTells.f at H
  refine calls_of_EW (args := [.int .i32 a6, .int .i64 a7, .int .i64 a8, .int .i64 a9, .int .u8 a10]) (c := C7) 129 Try.func7 (by kernel_rfl) (by kernel_rfl) (by kernel_rfl) ?_
  refine EW.seq (x := C7.l) (y := C7.r) (by kernel_rfl) ?_
  refine EW.region (id := 0) (ops := C7.l.ops) (by kernel_rfl) ?_
  refine EL.quick 1 [0, 1, 2, 3, 4] [(0, .int .i32 a6), (1, .int .i64 a7), (2, .int .i64 a8), (3, .int .i64 a9), (4, .int .u8 a10)] (by kernel_rfl) ?_
  refine EL.done (by kernel_rfl) ?_
  refine EQ.code ?_
  refine EW.seq (x := C7.r.l) (y := C7.r.r) (by kernel_rfl) ?_
  refine EW.seq (x := C7.r.l.l) (y := C7.r.l.r) (by kernel_rfl) ?_
  refine EW.region (id := 1) (ops := C7.r.l.l.ops) (by kernel_rfl) ?_
  obtain ⟨t1484, hc1485, H⟩ := b1_out H
  refine EL.of (EO.callD 20 [] _ 19 (by kernel_rfl) (by kernel_rfl) (by kernel_rfl) (confidantlaw11_known.calls hc1485 hS) ?_)
  rintro v w ⟨rfl, hS⟩
  refine EL.quick 1 [0, 1, 2, 3, 4, 20] [(0, .int .i32 a6), (1, .int .i64 a7), (2, .int .i64 a8), (3, .int .i64 a9), (4, .int .u8 a10), (20, .bool (!(t1484)))] (by kernel_rfl) ?_
  refine EL.done (by kernel_rfl) ?_
  refine EQ.code ?_
  refine EW.condQ (b := !(t1484)) (o := (.tmp 20)) (x := C7.r.l.r.l) (y := C7.r.l.r.r) (t1484 = true) (false) (by kernel_rfl) (by kernel_rfl) (by constructor <;> intro h <;> simp [h]) (fun h1486 => ?_) (fun h1486 => ?_)
  · rw [if_pos h1486] at H
    refine EW.skip (by kernel_rfl) ?_
    refine EQ.code ?_
    obtain ⟨j2028, hj2028, H⟩ := lt_out H
    refine EW.cut (x := C7.r.r.l) (y := C7.r.r.r) (fun a w => ∃ x2025 : List S35, ∃ A2026 : Option Addr, ∃ C2027 : Nat, Sat 129 [(0, .int .i32 a6), (3, .int .i64 a9), (4, .int .u8 a10)] a ∧ St B w (Ass.own 35 kS35 A2026 C2027 x2025 :: os) (rs) ∧ j2028 x2025 = some x1476) (by kernel_rfl) ?_ (fun a w hI => ?_)
    · refine EW.seq (x := C7.r.r.l.l) (y := C7.r.r.l.r) (by kernel_rfl) ?_
      refine EW.region (id := 3) (ops := C7.r.r.l.l.ops) (by kernel_rfl) ?_
      refine EL.quick 14 [0, 3, 4, 23, 28, 34] [(0, .int .i32 a6), (3, .int .i64 a9), (4, .int .u8 a10), (23, .agg #[.int .i64 a7, .int .i64 a8]), (28, .agg #[.int .i64 (bA .i64 a7 31), .int .i64 (bA .i64 a8 131071)]), (34, .agg #[.int .i64 (IntKind.i64.wrap (Int.tmod a10 18)), .int .i64 (bA .i64 a8 65535)])] (by kernel_rfl) ?_
      obtain ⟨l2032, hl2032, H⟩ := lt_out H
      refine EL.of (EO.lit hS kS35 35 36 3 #[(0, .agg #[.int .i64 a7, .int .i64 a8]), (1, .agg #[.int .i64 (bA .i64 a7 31), .int .i64 (bA .i64 a8 131071)]), (2, .agg #[.int .i64 (IntKind.i64.wrap (Int.tmod a10 18)), .int .i64 (bA .i64 a8 65535)])] [.int .i64 a7, .int .i64 a8, .int .i64 (bA .i64 a7 31), .int .i64 (bA .i64 a8 131071), .int .i64 (IntKind.i64.wrap (Int.tmod a10 18)), .int .i64 (bA .i64 a8 65535)] l2032 35 (by kernel_rfl) (by kernel_rfl) (by kernel_rfl) (fun _ => (by kernel_rfl)) (by rw [hl2032]; rfl) (by kernel_rfl) (fun w G hr => (by rw [hl2032]; exact ⟨[.int .i64 a7, .int .i64 a8], [.int .i64 (bA .i64 a7 31), .int .i64 (bA .i64 a8 131071), .int .i64 (IntKind.i64.wrap (Int.tmod a10 18)), .int .i64 (bA .i64 a8 65535)], rfl, ⟨[.int .i64 a7], [.int .i64 a8], rfl, rfl, ⟨[.int .i64 a8], [], rfl, rfl, rfl⟩⟩, ⟨[.int .i64 (bA .i64 a7 31), .int .i64 (bA .i64 a8 131071)], [.int .i64 (IntKind.i64.wrap (Int.tmod a10 18)), .int .i64 (bA .i64 a8 65535)], rfl, ⟨[.int .i64 (bA .i64 a7 31)], [.int .i64 (bA .i64 a8 131071)], rfl, rfl, ⟨[.int .i64 (bA .i64 a8 131071)], [], rfl, rfl, rfl⟩⟩, ⟨[.int .i64 (IntKind.i64.wrap (Int.tmod a10 18)), .int .i64 (bA .i64 a8 65535)], [], rfl, ⟨[.int .i64 (IntKind.i64.wrap (Int.tmod a10 18))], [.int .i64 (bA .i64 a8 65535)], rfl, rfl, ⟨[.int .i64 (bA .i64 a8 65535)], [], rfl, rfl, rfl⟩⟩, rfl⟩⟩⟩)) ?_)
      intro g2031 w hS
      refine EL.quick 2 [0, 3, 4, 35, 36, 37] [(0, .int .i32 a6), (3, .int .i64 a9), (4, .int .u8 a10), (35, .slice (some ⟨g2031, 0, none⟩) l2032.length 3), (36, .int .i64 (l2032.length : Int)), (37, .int .i64 0)] (by kernel_rfl) ?_
      refine EL.done (by kernel_rfl) ?_
      refine EQ.code ?_
      refine EW.block (x := C7.r.r.l.r.l) (id := 0) (by kernel_rfl) ?_
      refine EW.loop (x := C7.r.r.l.r.l.l) (fun n a w => ∃ x2119 : Int, Sat 129 [(0, .int .i32 a6), (3, .int .i64 a9), (4, .int .u8 a10), (35, .slice (some ⟨g2031, 0, none⟩) l2032.length 3), (36, .int .i64 (l2032.length : Int)), (37, .int .i64 x2119)] a ∧ St B w (Ass.own 35 kS35 (some ⟨g2031, 0, none⟩) 3 l2032 :: os) (rs) ∧ confidantlaw11_IdentTells.l0 K l2032 j2028 n x2119 = some x1476) K (by kernel_rfl) ?_ (fun n a w hI => ?_)
      · refine EQ.keep [0, 3, 4, 35, 36, 37] [(0, .int .i32 a6), (3, .int .i64 a9), (4, .int .u8 a10), (35, .slice (some ⟨g2031, 0, none⟩) l2032.length 3), (36, .int .i64 (l2032.length : Int)), (37, .int .i64 0)] (by kernel_rfl) ?_
        exact fun a ha => ⟨0, ha, (hS.re [0] [] rfl (sub_self)), H⟩
      · obtain ⟨x2119, ha, hS, H⟩ := hI
        obtain _ | n := n
        · simp [confidantlaw11_IdentTells.l0] at H
        rw [confidantlaw11_IdentTells.l0.eq_2] at H
        refine EW.at ?_ a ha
        clear ha a
        refine EW.seq (x := C7.r.r.l.r.l.l.l) (y := C7.r.r.l.r.l.l.r) (by kernel_rfl) ?_
        refine EW.region (id := 4) (ops := C7.r.r.l.r.l.l.l.ops) (by kernel_rfl) ?_
        refine EL.quick 1 [0, 3, 4, 35, 36, 37, 38] [(0, .int .i32 a6), (3, .int .i64 a9), (4, .int .u8 a10), (35, .slice (some ⟨g2031, 0, none⟩) l2032.length 3), (36, .int .i64 (l2032.length : Int)), (37, .int .i64 x2119), (38, .bool (decide (x2119 < (l2032.length : Int))))] (by kernel_rfl) ?_
        refine EL.done (by kernel_rfl) ?_
        refine EQ.code ?_
        refine EW.seq (x := C7.r.r.l.r.l.l.r.l) (y := C7.r.r.l.r.l.l.r.r) (by kernel_rfl) ?_
        refine EW.condP (o := (.tmp 38)) (x := C7.r.r.l.r.l.l.r.l.l) (y := C7.r.r.l.r.l.l.r.l.r) (x2119 < (l2032.length : Int)) (by kernel_rfl) (by kernel_rfl) (fun h2211 => ?_) (fun h2211 => ?_)
        · rw [if_pos h2211] at H
          refine EW.skip (by kernel_rfl) ?_
          refine EQ.code ?_
          refine EW.seq (x := C7.r.r.l.r.l.l.r.r.l) (y := C7.r.r.l.r.l.l.r.r.r) (by kernel_rfl) ?_
          refine EW.block (x := C7.r.r.l.r.l.l.r.r.l.l) (id := 1) (by kernel_rfl) ?_
          refine EW.seq (x := C7.r.r.l.r.l.l.r.r.l.l.l) (y := C7.r.r.l.r.l.l.r.r.l.l.r) (by kernel_rfl) ?_
          refine EW.region (id := 5) (ops := C7.r.r.l.r.l.l.r.r.l.l.l.ops) (by kernel_rfl) ?_
          obtain ⟨h2257, H⟩ := ite_in H
          refine EL.of (EO.Y (YO.idx 36 2 ⟨g2031, 0, none⟩ l2032.length 3 .i64 x2119 39 (by kernel_rfl) (by kernel_rfl) (by kernel_rfl) (by kernel_rfl) h2257 h2211) ?_)
          refine EL.of (EO.Y (YO.loadEl hS kS35 ⟨g2031, 0, none⟩ 3 l2032 (Rd.own 0 35 rfl) zS35 encS35 encS35_of x2119 h2257 h2211 35 2 0 2 rfl (.agg #[.int .i64 ((l2032.getD x2119.toNat zS35).f0), .int .i64 ((l2032.getD x2119.toNat zS35).f1)]) 40 (by kernel_rfl) (by kernel_rfl) (by kernel_rfl) (by kernel_rfl)) ?_)
          refine EL.of (EO.alloc hS 35 (.agg #[.int .i64 0, .int .i64 0]) [.int .i64 0, .int .i64 0] 12 (by kernel_rfl) (by kernel_rfl) (by kernel_rfl) (by kernel_rfl) (by first | rfl | kernel_rfl) ?_)
          intro g2258 w hS
          refine EL.of (EO.storeBox (os' := Ass.box 35 g2258 [.int .i64 ((l2032.getD x2119.toNat zS35).f0), .int .i64 ((l2032.getD x2119.toNat zS35).f1)] :: Ass.own 35 kS35 (some ⟨g2031, 0, none⟩) 3 l2032 :: os) hS 0 rfl 35 0 (.agg #[.int .i64 ((l2032.getD x2119.toNat zS35).f0), .int .i64 ((l2032.getD x2119.toNat zS35).f1)]) [.int .i64 ((l2032.getD x2119.toNat zS35).f0), .int .i64 ((l2032.getD x2119.toNat zS35).f1)] (by kernel_rfl) (by kernel_rfl) (by kernel_rfl) (by kernel_rfl) (by kernel_rfl) (by kernel_rfl) rfl rfl ?_)
          intro w hS
          refine EL.done (by kernel_rfl) ?_
          refine EQ.code ?_
          refine EW.seq (x := C7.r.r.l.r.l.l.r.r.l.l.r.l) (y := C7.r.r.l.r.l.l.r.r.l.l.r.r) (by kernel_rfl) ?_
          refine EW.region (id := 6) (ops := C7.r.r.l.r.l.l.r.r.l.l.r.l.ops) (by kernel_rfl) ?_
          refine EL.quick 1 [0, 3, 4, 12, 35, 36, 37, 42] [(0, .int .i32 a6), (3, .int .i64 a9), (4, .int .u8 a10), (12, .pointer (some ⟨g2258, 0, none⟩)), (35, .slice (some ⟨g2031, 0, none⟩) l2032.length 3), (36, .int .i64 (l2032.length : Int)), (37, .int .i64 x2119), (42, .pointer (some ⟨g2258, 0, none⟩))] (by kernel_rfl) ?_
          refine EL.of (EO.Y (YO.loadBox hS 0 rfl 3 0 1 (.int .i64 ((l2032.getD x2119.toNat zS35).f0)) 43 (by kernel_rfl) (by kernel_rfl) (by kernel_rfl) (by kernel_rfl)) ?_)
          refine EL.quick 1 [0, 3, 4, 12, 35, 36, 37, 43, 44] [(0, .int .i32 a6), (3, .int .i64 a9), (4, .int .u8 a10), (12, .pointer (some ⟨g2258, 0, none⟩)), (35, .slice (some ⟨g2031, 0, none⟩) l2032.length 3), (36, .int .i64 (l2032.length : Int)), (37, .int .i64 x2119), (43, .int .i64 ((l2032.getD x2119.toNat zS35).f0)), (44, .pointer (some ⟨g2258, 1, none⟩))] (by kernel_rfl) ?_
          refine EL.of (EO.Y (YO.loadBox hS 0 rfl 3 1 1 (.int .i64 ((l2032.getD x2119.toNat zS35).f1)) 45 (by kernel_rfl) (by kernel_rfl) (by kernel_rfl) (by kernel_rfl)) ?_)
          obtain ⟨t2262, t2263, hc2264, H⟩ := b2_out H
          refine EL.of (EO.callD 21 [.int .i64 ((l2032.getD x2119.toNat zS35).f0), .int .i64 ((l2032.getD x2119.toNat zS35).f1)] _ 46 (by kernel_rfl) (by kernel_rfl) (by kernel_rfl) (ident_Of.calls hc2264 hS) ?_)
          rintro v w ⟨rfl, hS⟩
          refine EL.quick 5 [0, 3, 4, 12, 13, 14, 35, 36, 37] [(0, .int .i32 a6), (3, .int .i64 a9), (4, .int .u8 a10), (12, .pointer (some ⟨g2258, 0, none⟩)), (13, .int .i32 t2262), (14, .bool (t2263)), (35, .slice (some ⟨g2031, 0, none⟩) l2032.length 3), (36, .int .i64 (l2032.length : Int)), (37, .int .i64 x2119)] (by kernel_rfl) ?_
          refine EL.done (by kernel_rfl) ?_
          refine EQ.code ?_
          refine EW.seq (x := C7.r.r.l.r.l.l.r.r.l.l.r.r.l) (y := C7.r.r.l.r.l.l.r.r.l.l.r.r.r) (by kernel_rfl) ?_
          refine EW.region (id := 7) (ops := C7.r.r.l.r.l.l.r.r.l.l.r.r.l.ops) (by kernel_rfl) ?_
          refine EL.quick 1 [0, 3, 4, 12, 13, 14, 35, 36, 37, 50] [(0, .int .i32 a6), (3, .int .i64 a9), (4, .int .u8 a10), (12, .pointer (some ⟨g2258, 0, none⟩)), (13, .int .i32 t2262), (14, .bool (t2263)), (35, .slice (some ⟨g2031, 0, none⟩) l2032.length 3), (36, .int .i64 (l2032.length : Int)), (37, .int .i64 x2119), (50, .pointer (some ⟨g2258, 0, none⟩))] (by kernel_rfl) ?_
          refine EL.of (EO.Y (YO.loadBox hS 0 rfl 3 0 1 (.int .i64 ((l2032.getD x2119.toNat zS35).f0)) 51 (by kernel_rfl) (by kernel_rfl) (by kernel_rfl) (by kernel_rfl)) ?_)
          refine EL.quick 1 [0, 3, 4, 12, 13, 14, 35, 36, 37, 51, 52] [(0, .int .i32 a6), (3, .int .i64 a9), (4, .int .u8 a10), (12, .pointer (some ⟨g2258, 0, none⟩)), (13, .int .i32 t2262), (14, .bool (t2263)), (35, .slice (some ⟨g2031, 0, none⟩) l2032.length 3), (36, .int .i64 (l2032.length : Int)), (37, .int .i64 x2119), (51, .int .i64 ((l2032.getD x2119.toNat zS35).f0)), (52, .pointer (some ⟨g2258, 1, none⟩))] (by kernel_rfl) ?_
          refine EL.of (EO.Y (YO.loadBox hS 0 rfl 3 1 1 (.int .i64 ((l2032.getD x2119.toNat zS35).f1)) 53 (by kernel_rfl) (by kernel_rfl) (by kernel_rfl) (by kernel_rfl)) ?_)
          obtain ⟨t2268, t2269, hc2270, H⟩ := b2_out H
          refine EL.of (EO.callD 22 [.int .i64 ((l2032.getD x2119.toNat zS35).f0), .int .i64 ((l2032.getD x2119.toNat zS35).f1)] _ 54 (by kernel_rfl) (by kernel_rfl) (by kernel_rfl) (confidantref9_Of.calls hc2270 hS) ?_)
          rintro v w ⟨rfl, hS⟩
          refine EL.quick 5 [0, 3, 4, 12, 13, 14, 15, 16, 35, 36, 37] [(0, .int .i32 a6), (3, .int .i64 a9), (4, .int .u8 a10), (12, .pointer (some ⟨g2258, 0, none⟩)), (13, .int .i32 t2262), (14, .bool (t2263)), (15, .int .i32 t2268), (16, .bool (t2269)), (35, .slice (some ⟨g2031, 0, none⟩) l2032.length 3), (36, .int .i64 (l2032.length : Int)), (37, .int .i64 x2119)] (by kernel_rfl) ?_
          refine EL.done (by kernel_rfl) ?_
          refine EQ.code ?_
          obtain ⟨j2288, hj2288, H⟩ := lt_out H
          refine EW.cut (x := C7.r.r.l.r.l.l.r.r.l.l.r.r.r.l) (y := C7.r.r.l.r.l.l.r.r.l.l.r.r.r.r) (fun a w => ∃ x2287 : Bool, Sat 129 [(0, .int .i32 a6), (3, .int .i64 a9), (4, .int .u8 a10), (35, .slice (some ⟨g2031, 0, none⟩) l2032.length 3), (36, .int .i64 (l2032.length : Int)), (37, .int .i64 x2119), (81, .bool (x2287))] a ∧ St B w (Ass.box 35 g2258 [.int .i64 ((l2032.getD x2119.toNat zS35).f0), .int .i64 ((l2032.getD x2119.toNat zS35).f1)] :: Ass.own 35 kS35 (some ⟨g2031, 0, none⟩) 3 l2032 :: os) (rs) ∧ j2288 x2287 = some x1476) (by kernel_rfl) ?_ (fun a w hI => ?_)
          · by_cases h2289 : t2262 = t2268
            · rw [if_pos h2289] at H
              by_cases h2290 : (t2263 == t2269) = true
              · rw [if_pos h2290] at H
                by_cases h2291 : t2263 = true
                · rw [if_pos h2291] at H
                  obtain ⟨t2292, hc2293, H⟩ := b1_out H
                  by_cases h2294 : t2292 = ((l2032.getD x2119.toNat zS35).f0)
                  · rw [if_pos h2294] at H
                    obtain ⟨t2295, hc2296, H⟩ := b1_out H
                    have hS := hS.drew
                    refine EW.draw (B := B) (id := 8) (ops := C7.r.r.l.r.l.l.r.r.l.l.r.r.r.l.ops) [Ass.box 35 g2258 [.int .i64 ((l2032.getD x2119.toNat zS35).f0), .int .i64 ((l2032.getD x2119.toNat zS35).f1)], Ass.own 35 kS35 (some ⟨g2031, 0, none⟩) 3 l2032] [] (by kernel_rfl) (by kernel_rfl) ?_
                    have hN : Region.noSelect C7.r.r.l.r.l.l.r.r.l.l.r.r.r.l.ops = true := (by kernel_rfl)
                    have hF : freeAll C7.r.r.l.r.l.l.r.r.l.l.r.r.r.l.ops = true := (by kernel_rfl)
                    have hC : Core B [Ass.box 35 g2258 [.int .i64 ((l2032.getD x2119.toNat zS35).f0), .int .i64 ((l2032.getD x2119.toNat zS35).f1)], Ass.own 35 kS35 (some ⟨g2031, 0, none⟩) 3 l2032] [] _ := ⟨_, _, hS⟩
                    refine ED.quick hN hF hC [0, 1, 2, 3] [0, 3, 4, 12, 13, 14, 16, 35, 36, 37, 60] 21 [(0, .int .i32 a6), (3, .int .i64 a9), (4, .int .u8 a10), (12, .pointer (some ⟨g2258, 0, none⟩)), (13, .int .i32 t2262), (14, .bool (t2263)), (16, .bool (t2269)), (35, .slice (some ⟨g2031, 0, none⟩) l2032.length 3), (36, .int .i64 (l2032.length : Int)), (37, .int .i64 x2119), (60, .bool (!(decide (t2262 = t2268))))] #[true, true, true, true, false, false, false, false, false, false, false, false, false, false, false, false, false, false, false, false, false, false, false, false, false] (by kernel_rfl) (by kernel_rfl) ?_
                    refine ED.keep [0, 3, 4, 12, 13, 14, 16, 35, 36, 37, 60] [(0, .int .i32 a6), (3, .int .i64 a9), (4, .int .u8 a10), (12, .pointer (some ⟨g2258, 0, none⟩)), (13, .int .i32 t2262), (14, .bool (t2263)), (16, .bool (t2269)), (35, .slice (some ⟨g2031, 0, none⟩) l2032.length 3), (36, .int .i64 (l2032.length : Int)), (37, .int .i64 x2119), (60, .bool (!(decide (t2262 = t2268))))] (by kernel_rfl) ?_
                    refine ED.as' [(0, .int .i32 a6), (3, .int .i64 a9), (4, .int .u8 a10), (12, .pointer (some ⟨g2258, 0, none⟩)), (13, .int .i32 t2262), (14, .bool (t2263)), (16, .bool (t2269)), (35, .slice (some ⟨g2031, 0, none⟩) l2032.length 3), (36, .int .i64 (l2032.length : Int)), (37, .int .i64 x2119), (60, .bool (false))] (by simp only [dec_t h2289, Bool.not_true, Bool.not_false]) ?_
                    refine ED.quick hN hF hC [4, 5, 6, 7, 8] [0, 3, 4, 12, 13, 14, 35, 36, 37, 61, 62, 63, 65] 16 [(0, .int .i32 a6), (3, .int .i64 a9), (4, .int .u8 a10), (12, .pointer (some ⟨g2258, 0, none⟩)), (13, .int .i32 t2262), (14, .bool (t2263)), (35, .slice (some ⟨g2031, 0, none⟩) l2032.length 3), (36, .int .i64 (l2032.length : Int)), (37, .int .i64 x2119), (61, .bool (t2263)), (62, .bool (t2269)), (63, .bool (!((t2263 == t2269)))), (65, .bool (!((t2263 == t2269))))] #[true, true, true, true, true, true, true, true, true, false, false, false, false, false, false, false, false, false, false, false, false, false, false, false, false] (by kernel_rfl) (by kernel_rfl) ?_
                    refine ED.keep [0, 3, 4, 12, 13, 14, 35, 36, 37, 61, 62, 63, 65] [(0, .int .i32 a6), (3, .int .i64 a9), (4, .int .u8 a10), (12, .pointer (some ⟨g2258, 0, none⟩)), (13, .int .i32 t2262), (14, .bool (t2263)), (35, .slice (some ⟨g2031, 0, none⟩) l2032.length 3), (36, .int .i64 (l2032.length : Int)), (37, .int .i64 x2119), (61, .bool (t2263)), (62, .bool (t2269)), (63, .bool (!((t2263 == t2269)))), (65, .bool (!((t2263 == t2269))))] (by kernel_rfl) ?_
                    refine ED.as' [(0, .int .i32 a6), (3, .int .i64 a9), (4, .int .u8 a10), (12, .pointer (some ⟨g2258, 0, none⟩)), (13, .int .i32 t2262), (14, .bool (t2263)), (35, .slice (some ⟨g2031, 0, none⟩) l2032.length 3), (36, .int .i64 (l2032.length : Int)), (37, .int .i64 x2119), (61, .bool (t2263)), (62, .bool (t2269)), (63, .bool (false)), (65, .bool (false))] (by simp only [h2290, Bool.not_true, Bool.not_false]) ?_
                    refine ED.quick hN hF hC [9, 10] [0, 3, 4, 12, 13, 35, 36, 37, 61, 62, 63, 65, 66, 67] 14 [(0, .int .i32 a6), (3, .int .i64 a9), (4, .int .u8 a10), (12, .pointer (some ⟨g2258, 0, none⟩)), (13, .int .i32 t2262), (35, .slice (some ⟨g2031, 0, none⟩) l2032.length 3), (36, .int .i64 (l2032.length : Int)), (37, .int .i64 x2119), (61, .bool (t2263)), (62, .bool (t2269)), (63, .bool (false)), (65, .bool (false)), (66, .bool (t2263)), (67, .bool (t2263))] #[true, true, true, true, true, true, true, true, true, true, true, false, false, false, false, false, false, false, false, false, false, false, false, false, false] (by kernel_rfl) (by kernel_rfl) ?_
                    refine ED.keep [0, 3, 4, 12, 13, 35, 36, 37, 61, 62, 63, 65, 66, 67] [(0, .int .i32 a6), (3, .int .i64 a9), (4, .int .u8 a10), (12, .pointer (some ⟨g2258, 0, none⟩)), (13, .int .i32 t2262), (35, .slice (some ⟨g2031, 0, none⟩) l2032.length 3), (36, .int .i64 (l2032.length : Int)), (37, .int .i64 x2119), (61, .bool (t2263)), (62, .bool (t2269)), (63, .bool (false)), (65, .bool (false)), (66, .bool (t2263)), (67, .bool (t2263))] (by kernel_rfl) ?_
                    refine ED.as' [(0, .int .i32 a6), (3, .int .i64 a9), (4, .int .u8 a10), (12, .pointer (some ⟨g2258, 0, none⟩)), (13, .int .i32 t2262), (35, .slice (some ⟨g2031, 0, none⟩) l2032.length 3), (36, .int .i64 (l2032.length : Int)), (37, .int .i64 x2119), (61, .bool (true)), (62, .bool (t2269)), (63, .bool (false)), (65, .bool (false)), (66, .bool (true)), (67, .bool (true))] (by simp only [h2291, Bool.not_true, Bool.not_false]) ?_
                    refine ED.quick hN hF hC [11, 13] [0, 3, 4, 12, 13, 35, 36, 37, 61, 62, 63, 65, 66, 67, 68, 70] 12 [(0, .int .i32 a6), (3, .int .i64 a9), (4, .int .u8 a10), (12, .pointer (some ⟨g2258, 0, none⟩)), (13, .int .i32 t2262), (35, .slice (some ⟨g2031, 0, none⟩) l2032.length 3), (36, .int .i64 (l2032.length : Int)), (37, .int .i64 x2119), (61, .bool (true)), (62, .bool (t2269)), (63, .bool (false)), (65, .bool (false)), (66, .bool (true)), (67, .bool (true)), (68, .int .i32 t2262), (70, .pointer (some ⟨g2258, 0, none⟩))] #[true, true, true, true, true, true, true, true, true, true, true, true, false, true, false, false, false, false, false, false, false, false, false, false, false] (by kernel_rfl) (by kernel_rfl) ?_
                    refine ED.Y hN hF hC 14 11 #[true, true, true, true, true, true, true, true, true, true, true, true, false, true, true, false, false, false, false, false, false, false, false, false, false] (by kernel_rfl) (by kernel_rfl) rfl (fun _ _ _ hS => YO.loadBox hS 0 rfl 3 0 1 (.int .i64 ((l2032.getD x2119.toNat zS35).f0)) 71 (by kernel_rfl) (by kernel_rfl) (by kernel_rfl) (by kernel_rfl)) ?_
                    refine ED.one 12 10 #[true, true, true, true, true, true, true, true, true, true, true, true, true, true, true, false, false, false, false, false, false, false, false, false, false] (by kernel_rfl) (by kernel_rfl) (by kernel_rfl) (EO.callD 23 [.int .i32 t2262] _ 69 (by kernel_rfl) (by kernel_rfl) (by kernel_rfl) (ident_Label.calls hc2293 hS) ?_)
                    rintro v w ⟨rfl, hS⟩
                    have hC : Core B [Ass.box 35 g2258 [.int .i64 ((l2032.getD x2119.toNat zS35).f0), .int .i64 ((l2032.getD x2119.toNat zS35).f1)], Ass.own 35 kS35 (some ⟨g2031, 0, none⟩) 3 l2032] [] _ := ⟨_, _, hS⟩
                    refine ⟨hC, ?_⟩
                    refine ED.quick hN hF hC [15, 16] [0, 3, 4, 12, 13, 35, 36, 37, 61, 62, 63, 65, 66, 67, 68, 69, 70, 71, 72, 73] 8 [(0, .int .i32 a6), (3, .int .i64 a9), (4, .int .u8 a10), (12, .pointer (some ⟨g2258, 0, none⟩)), (13, .int .i32 t2262), (35, .slice (some ⟨g2031, 0, none⟩) l2032.length 3), (36, .int .i64 (l2032.length : Int)), (37, .int .i64 x2119), (61, .bool (true)), (62, .bool (t2269)), (63, .bool (false)), (65, .bool (false)), (66, .bool (true)), (67, .bool (true)), (68, .int .i32 t2262), (69, .int .i64 t2292), (70, .pointer (some ⟨g2258, 0, none⟩)), (71, .int .i64 ((l2032.getD x2119.toNat zS35).f0)), (72, .bool (!(decide (t2292 = ((l2032.getD x2119.toNat zS35).f0))))), (73, .bool (!(decide (t2292 = ((l2032.getD x2119.toNat zS35).f0)))))] #[true, true, true, true, true, true, true, true, true, true, true, true, true, true, true, true, true, false, false, false, false, false, false, false, false] (by kernel_rfl) (by kernel_rfl) ?_
                    refine ED.keep [0, 3, 4, 12, 13, 35, 36, 37, 61, 62, 63, 65, 66, 67, 68, 69, 70, 71, 72, 73] [(0, .int .i32 a6), (3, .int .i64 a9), (4, .int .u8 a10), (12, .pointer (some ⟨g2258, 0, none⟩)), (13, .int .i32 t2262), (35, .slice (some ⟨g2031, 0, none⟩) l2032.length 3), (36, .int .i64 (l2032.length : Int)), (37, .int .i64 x2119), (61, .bool (true)), (62, .bool (t2269)), (63, .bool (false)), (65, .bool (false)), (66, .bool (true)), (67, .bool (true)), (68, .int .i32 t2262), (69, .int .i64 t2292), (70, .pointer (some ⟨g2258, 0, none⟩)), (71, .int .i64 ((l2032.getD x2119.toNat zS35).f0)), (72, .bool (!(decide (t2292 = ((l2032.getD x2119.toNat zS35).f0))))), (73, .bool (!(decide (t2292 = ((l2032.getD x2119.toNat zS35).f0)))))] (by kernel_rfl) ?_
                    refine ED.as' [(0, .int .i32 a6), (3, .int .i64 a9), (4, .int .u8 a10), (12, .pointer (some ⟨g2258, 0, none⟩)), (13, .int .i32 t2262), (35, .slice (some ⟨g2031, 0, none⟩) l2032.length 3), (36, .int .i64 (l2032.length : Int)), (37, .int .i64 x2119), (61, .bool (true)), (62, .bool (t2269)), (63, .bool (false)), (65, .bool (false)), (66, .bool (true)), (67, .bool (true)), (68, .int .i32 t2262), (69, .int .i64 t2292), (70, .pointer (some ⟨g2258, 0, none⟩)), (71, .int .i64 ((l2032.getD x2119.toNat zS35).f0)), (72, .bool (false)), (73, .bool (false))] (by simp only [dec_t h2294, Bool.not_true, Bool.not_false]) ?_
                    refine ED.quick hN hF hC [17, 19] [0, 3, 4, 35, 36, 37, 61, 62, 63, 65, 66, 67, 68, 69, 70, 71, 72, 73, 74, 76] 6 [(0, .int .i32 a6), (3, .int .i64 a9), (4, .int .u8 a10), (35, .slice (some ⟨g2031, 0, none⟩) l2032.length 3), (36, .int .i64 (l2032.length : Int)), (37, .int .i64 x2119), (61, .bool (true)), (62, .bool (t2269)), (63, .bool (false)), (65, .bool (false)), (66, .bool (true)), (67, .bool (true)), (68, .int .i32 t2262), (69, .int .i64 t2292), (70, .pointer (some ⟨g2258, 0, none⟩)), (71, .int .i64 ((l2032.getD x2119.toNat zS35).f0)), (72, .bool (false)), (73, .bool (false)), (74, .int .i32 t2262), (76, .pointer (some ⟨g2258, 1, none⟩))] #[true, true, true, true, true, true, true, true, true, true, true, true, true, true, true, true, true, true, false, true, false, false, false, false, false] (by kernel_rfl) (by kernel_rfl) ?_
                    refine ED.Y hN hF hC 20 5 #[true, true, true, true, true, true, true, true, true, true, true, true, true, true, true, true, true, true, false, true, true, false, false, false, false] (by kernel_rfl) (by kernel_rfl) rfl (fun _ _ _ hS => YO.loadBox hS 0 rfl 3 1 1 (.int .i64 ((l2032.getD x2119.toNat zS35).f1)) 77 (by kernel_rfl) (by kernel_rfl) (by kernel_rfl) (by kernel_rfl)) ?_
                    refine ED.one 18 4 #[true, true, true, true, true, true, true, true, true, true, true, true, true, true, true, true, true, true, true, true, true, false, false, false, false] (by kernel_rfl) (by kernel_rfl) (by kernel_rfl) (EO.callD 24 [.int .i32 t2262] _ 75 (by kernel_rfl) (by kernel_rfl) (by kernel_rfl) (ident_Number.calls hc2296 hS) ?_)
                    rintro v w ⟨rfl, hS⟩
                    have hC : Core B [Ass.box 35 g2258 [.int .i64 ((l2032.getD x2119.toNat zS35).f0), .int .i64 ((l2032.getD x2119.toNat zS35).f1)], Ass.own 35 kS35 (some ⟨g2031, 0, none⟩) 3 l2032] [] _ := ⟨_, _, hS⟩
                    refine ⟨hC, ?_⟩
                    refine ED.quick hN hF hC [21, 22, 23, 24] [0, 3, 4, 35, 36, 37, 61, 62, 63, 66, 67, 68, 69, 70, 71, 72, 73, 74, 75, 76, 77, 78, 79, 80, 81] 0 [(0, .int .i32 a6), (3, .int .i64 a9), (4, .int .u8 a10), (35, .slice (some ⟨g2031, 0, none⟩) l2032.length 3), (36, .int .i64 (l2032.length : Int)), (37, .int .i64 x2119), (61, .bool (true)), (62, .bool (t2269)), (63, .bool (false)), (66, .bool (true)), (67, .bool (true)), (68, .int .i32 t2262), (69, .int .i64 t2292), (70, .pointer (some ⟨g2258, 0, none⟩)), (71, .int .i64 ((l2032.getD x2119.toNat zS35).f0)), (72, .bool (false)), (73, .bool (false)), (74, .int .i32 t2262), (75, .int .i64 t2295), (76, .pointer (some ⟨g2258, 1, none⟩)), (77, .int .i64 ((l2032.getD x2119.toNat zS35).f1)), (78, .bool (!(decide (t2295 = ((l2032.getD x2119.toNat zS35).f1))))), (79, .bool (!(decide (t2295 = ((l2032.getD x2119.toNat zS35).f1))))), (80, .bool (!(decide (t2295 = ((l2032.getD x2119.toNat zS35).f1))))), (81, .bool (!(decide (t2295 = ((l2032.getD x2119.toNat zS35).f1)))))] #[true, true, true, true, true, true, true, true, true, true, true, true, true, true, true, true, true, true, true, true, true, true, true, true, true] (by kernel_rfl) (by kernel_rfl) ?_
                    refine ED.done (by kernel_rfl) ?_
                    refine EQ.to ?_
                    refine EQ.keep [0, 3, 4, 35, 36, 37, 81] [(0, .int .i32 a6), (3, .int .i64 a9), (4, .int .u8 a10), (35, .slice (some ⟨g2031, 0, none⟩) l2032.length 3), (36, .int .i64 (l2032.length : Int)), (37, .int .i64 x2119), (81, .bool (!(decide (t2295 = ((l2032.getD x2119.toNat zS35).f1)))))] (by kernel_rfl) ?_
                    exact fun a ha => ⟨!(decide (t2295 = ((l2032.getD x2119.toNat zS35).f1))), ha, (hS.re [1, 1] [] rfl (sub_self)), H⟩
                  · rw [if_neg h2294] at H
                    have hS := hS.drew
                    refine EW.draw (B := B) (id := 8) (ops := C7.r.r.l.r.l.l.r.r.l.l.r.r.r.l.ops) [Ass.box 35 g2258 [.int .i64 ((l2032.getD x2119.toNat zS35).f0), .int .i64 ((l2032.getD x2119.toNat zS35).f1)], Ass.own 35 kS35 (some ⟨g2031, 0, none⟩) 3 l2032] [] (by kernel_rfl) (by kernel_rfl) ?_
                    have hN : Region.noSelect C7.r.r.l.r.l.l.r.r.l.l.r.r.r.l.ops = true := (by kernel_rfl)
                    have hF : freeAll C7.r.r.l.r.l.l.r.r.l.l.r.r.r.l.ops = true := (by kernel_rfl)
                    have hC : Core B [Ass.box 35 g2258 [.int .i64 ((l2032.getD x2119.toNat zS35).f0), .int .i64 ((l2032.getD x2119.toNat zS35).f1)], Ass.own 35 kS35 (some ⟨g2031, 0, none⟩) 3 l2032] [] _ := ⟨_, _, hS⟩
                    refine ED.quick hN hF hC [0, 1, 2, 3] [0, 3, 4, 12, 13, 14, 16, 35, 36, 37, 60] 21 [(0, .int .i32 a6), (3, .int .i64 a9), (4, .int .u8 a10), (12, .pointer (some ⟨g2258, 0, none⟩)), (13, .int .i32 t2262), (14, .bool (t2263)), (16, .bool (t2269)), (35, .slice (some ⟨g2031, 0, none⟩) l2032.length 3), (36, .int .i64 (l2032.length : Int)), (37, .int .i64 x2119), (60, .bool (!(decide (t2262 = t2268))))] #[true, true, true, true, false, false, false, false, false, false, false, false, false, false, false, false, false, false, false, false, false, false, false, false, false] (by kernel_rfl) (by kernel_rfl) ?_
                    refine ED.keep [0, 3, 4, 12, 13, 14, 16, 35, 36, 37, 60] [(0, .int .i32 a6), (3, .int .i64 a9), (4, .int .u8 a10), (12, .pointer (some ⟨g2258, 0, none⟩)), (13, .int .i32 t2262), (14, .bool (t2263)), (16, .bool (t2269)), (35, .slice (some ⟨g2031, 0, none⟩) l2032.length 3), (36, .int .i64 (l2032.length : Int)), (37, .int .i64 x2119), (60, .bool (!(decide (t2262 = t2268))))] (by kernel_rfl) ?_
                    refine ED.as' [(0, .int .i32 a6), (3, .int .i64 a9), (4, .int .u8 a10), (12, .pointer (some ⟨g2258, 0, none⟩)), (13, .int .i32 t2262), (14, .bool (t2263)), (16, .bool (t2269)), (35, .slice (some ⟨g2031, 0, none⟩) l2032.length 3), (36, .int .i64 (l2032.length : Int)), (37, .int .i64 x2119), (60, .bool (false))] (by simp only [dec_t h2289, Bool.not_true, Bool.not_false]) ?_
                    refine ED.quick hN hF hC [4, 5, 6, 7, 8] [0, 3, 4, 12, 13, 14, 35, 36, 37, 61, 62, 63, 65] 16 [(0, .int .i32 a6), (3, .int .i64 a9), (4, .int .u8 a10), (12, .pointer (some ⟨g2258, 0, none⟩)), (13, .int .i32 t2262), (14, .bool (t2263)), (35, .slice (some ⟨g2031, 0, none⟩) l2032.length 3), (36, .int .i64 (l2032.length : Int)), (37, .int .i64 x2119), (61, .bool (t2263)), (62, .bool (t2269)), (63, .bool (!((t2263 == t2269)))), (65, .bool (!((t2263 == t2269))))] #[true, true, true, true, true, true, true, true, true, false, false, false, false, false, false, false, false, false, false, false, false, false, false, false, false] (by kernel_rfl) (by kernel_rfl) ?_
                    refine ED.keep [0, 3, 4, 12, 13, 14, 35, 36, 37, 61, 62, 63, 65] [(0, .int .i32 a6), (3, .int .i64 a9), (4, .int .u8 a10), (12, .pointer (some ⟨g2258, 0, none⟩)), (13, .int .i32 t2262), (14, .bool (t2263)), (35, .slice (some ⟨g2031, 0, none⟩) l2032.length 3), (36, .int .i64 (l2032.length : Int)), (37, .int .i64 x2119), (61, .bool (t2263)), (62, .bool (t2269)), (63, .bool (!((t2263 == t2269)))), (65, .bool (!((t2263 == t2269))))] (by kernel_rfl) ?_
                    refine ED.as' [(0, .int .i32 a6), (3, .int .i64 a9), (4, .int .u8 a10), (12, .pointer (some ⟨g2258, 0, none⟩)), (13, .int .i32 t2262), (14, .bool (t2263)), (35, .slice (some ⟨g2031, 0, none⟩) l2032.length 3), (36, .int .i64 (l2032.length : Int)), (37, .int .i64 x2119), (61, .bool (t2263)), (62, .bool (t2269)), (63, .bool (false)), (65, .bool (false))] (by simp only [h2290, Bool.not_true, Bool.not_false]) ?_
                    refine ED.quick hN hF hC [9, 10] [0, 3, 4, 12, 13, 35, 36, 37, 61, 62, 63, 65, 66, 67] 14 [(0, .int .i32 a6), (3, .int .i64 a9), (4, .int .u8 a10), (12, .pointer (some ⟨g2258, 0, none⟩)), (13, .int .i32 t2262), (35, .slice (some ⟨g2031, 0, none⟩) l2032.length 3), (36, .int .i64 (l2032.length : Int)), (37, .int .i64 x2119), (61, .bool (t2263)), (62, .bool (t2269)), (63, .bool (false)), (65, .bool (false)), (66, .bool (t2263)), (67, .bool (t2263))] #[true, true, true, true, true, true, true, true, true, true, true, false, false, false, false, false, false, false, false, false, false, false, false, false, false] (by kernel_rfl) (by kernel_rfl) ?_
                    refine ED.keep [0, 3, 4, 12, 13, 35, 36, 37, 61, 62, 63, 65, 66, 67] [(0, .int .i32 a6), (3, .int .i64 a9), (4, .int .u8 a10), (12, .pointer (some ⟨g2258, 0, none⟩)), (13, .int .i32 t2262), (35, .slice (some ⟨g2031, 0, none⟩) l2032.length 3), (36, .int .i64 (l2032.length : Int)), (37, .int .i64 x2119), (61, .bool (t2263)), (62, .bool (t2269)), (63, .bool (false)), (65, .bool (false)), (66, .bool (t2263)), (67, .bool (t2263))] (by kernel_rfl) ?_
                    refine ED.as' [(0, .int .i32 a6), (3, .int .i64 a9), (4, .int .u8 a10), (12, .pointer (some ⟨g2258, 0, none⟩)), (13, .int .i32 t2262), (35, .slice (some ⟨g2031, 0, none⟩) l2032.length 3), (36, .int .i64 (l2032.length : Int)), (37, .int .i64 x2119), (61, .bool (true)), (62, .bool (t2269)), (63, .bool (false)), (65, .bool (false)), (66, .bool (true)), (67, .bool (true))] (by simp only [h2291, Bool.not_true, Bool.not_false]) ?_
                    refine ED.quick hN hF hC [11, 13] [0, 3, 4, 12, 13, 35, 36, 37, 61, 62, 63, 65, 66, 67, 68, 70] 12 [(0, .int .i32 a6), (3, .int .i64 a9), (4, .int .u8 a10), (12, .pointer (some ⟨g2258, 0, none⟩)), (13, .int .i32 t2262), (35, .slice (some ⟨g2031, 0, none⟩) l2032.length 3), (36, .int .i64 (l2032.length : Int)), (37, .int .i64 x2119), (61, .bool (true)), (62, .bool (t2269)), (63, .bool (false)), (65, .bool (false)), (66, .bool (true)), (67, .bool (true)), (68, .int .i32 t2262), (70, .pointer (some ⟨g2258, 0, none⟩))] #[true, true, true, true, true, true, true, true, true, true, true, true, false, true, false, false, false, false, false, false, false, false, false, false, false] (by kernel_rfl) (by kernel_rfl) ?_
                    refine ED.Y hN hF hC 14 11 #[true, true, true, true, true, true, true, true, true, true, true, true, false, true, true, false, false, false, false, false, false, false, false, false, false] (by kernel_rfl) (by kernel_rfl) rfl (fun _ _ _ hS => YO.loadBox hS 0 rfl 3 0 1 (.int .i64 ((l2032.getD x2119.toNat zS35).f0)) 71 (by kernel_rfl) (by kernel_rfl) (by kernel_rfl) (by kernel_rfl)) ?_
                    refine ED.one 12 10 #[true, true, true, true, true, true, true, true, true, true, true, true, true, true, true, false, false, false, false, false, false, false, false, false, false] (by kernel_rfl) (by kernel_rfl) (by kernel_rfl) (EO.callD 23 [.int .i32 t2262] _ 69 (by kernel_rfl) (by kernel_rfl) (by kernel_rfl) (ident_Label.calls hc2293 hS) ?_)
                    rintro v w ⟨rfl, hS⟩
                    have hC : Core B [Ass.box 35 g2258 [.int .i64 ((l2032.getD x2119.toNat zS35).f0), .int .i64 ((l2032.getD x2119.toNat zS35).f1)], Ass.own 35 kS35 (some ⟨g2031, 0, none⟩) 3 l2032] [] _ := ⟨_, _, hS⟩
                    refine ⟨hC, ?_⟩
                    refine ED.quick hN hF hC [15, 16] [0, 3, 4, 12, 13, 35, 36, 37, 61, 62, 63, 65, 66, 67, 68, 69, 70, 71, 72, 73] 8 [(0, .int .i32 a6), (3, .int .i64 a9), (4, .int .u8 a10), (12, .pointer (some ⟨g2258, 0, none⟩)), (13, .int .i32 t2262), (35, .slice (some ⟨g2031, 0, none⟩) l2032.length 3), (36, .int .i64 (l2032.length : Int)), (37, .int .i64 x2119), (61, .bool (true)), (62, .bool (t2269)), (63, .bool (false)), (65, .bool (false)), (66, .bool (true)), (67, .bool (true)), (68, .int .i32 t2262), (69, .int .i64 t2292), (70, .pointer (some ⟨g2258, 0, none⟩)), (71, .int .i64 ((l2032.getD x2119.toNat zS35).f0)), (72, .bool (!(decide (t2292 = ((l2032.getD x2119.toNat zS35).f0))))), (73, .bool (!(decide (t2292 = ((l2032.getD x2119.toNat zS35).f0)))))] #[true, true, true, true, true, true, true, true, true, true, true, true, true, true, true, true, true, false, false, false, false, false, false, false, false] (by kernel_rfl) (by kernel_rfl) ?_
                    refine ED.keep [0, 3, 4, 12, 13, 35, 36, 37, 61, 62, 63, 65, 66, 67, 68, 69, 70, 71, 72, 73] [(0, .int .i32 a6), (3, .int .i64 a9), (4, .int .u8 a10), (12, .pointer (some ⟨g2258, 0, none⟩)), (13, .int .i32 t2262), (35, .slice (some ⟨g2031, 0, none⟩) l2032.length 3), (36, .int .i64 (l2032.length : Int)), (37, .int .i64 x2119), (61, .bool (true)), (62, .bool (t2269)), (63, .bool (false)), (65, .bool (false)), (66, .bool (true)), (67, .bool (true)), (68, .int .i32 t2262), (69, .int .i64 t2292), (70, .pointer (some ⟨g2258, 0, none⟩)), (71, .int .i64 ((l2032.getD x2119.toNat zS35).f0)), (72, .bool (!(decide (t2292 = ((l2032.getD x2119.toNat zS35).f0))))), (73, .bool (!(decide (t2292 = ((l2032.getD x2119.toNat zS35).f0)))))] (by kernel_rfl) ?_
                    refine ED.as' [(0, .int .i32 a6), (3, .int .i64 a9), (4, .int .u8 a10), (12, .pointer (some ⟨g2258, 0, none⟩)), (13, .int .i32 t2262), (35, .slice (some ⟨g2031, 0, none⟩) l2032.length 3), (36, .int .i64 (l2032.length : Int)), (37, .int .i64 x2119), (61, .bool (true)), (62, .bool (t2269)), (63, .bool (false)), (65, .bool (false)), (66, .bool (true)), (67, .bool (true)), (68, .int .i32 t2262), (69, .int .i64 t2292), (70, .pointer (some ⟨g2258, 0, none⟩)), (71, .int .i64 ((l2032.getD x2119.toNat zS35).f0)), (72, .bool (true)), (73, .bool (true))] (by simp only [dec_f h2294, Bool.not_true, Bool.not_false]) ?_
                    refine ED.quick hN hF hC [17, 18, 19, 20, 21, 22, 23, 24] [0, 3, 4, 35, 36, 37, 61, 62, 63, 66, 67, 68, 69, 70, 71, 72, 73, 74, 75, 76, 77, 78, 79, 80, 81] 0 [(0, .int .i32 a6), (3, .int .i64 a9), (4, .int .u8 a10), (35, .slice (some ⟨g2031, 0, none⟩) l2032.length 3), (36, .int .i64 (l2032.length : Int)), (37, .int .i64 x2119), (61, .bool (true)), (62, .bool (t2269)), (63, .bool (false)), (66, .bool (true)), (67, .bool (true)), (68, .int .i32 t2262), (69, .int .i64 t2292), (70, .pointer (some ⟨g2258, 0, none⟩)), (71, .int .i64 ((l2032.getD x2119.toNat zS35).f0)), (72, .bool (true)), (73, .bool (true)), (74, undef), (75, undef), (76, undef), (77, undef), (78, undef), (79, .bool (true)), (80, .bool (true)), (81, .bool (true))] #[true, true, true, true, true, true, true, true, true, true, true, true, true, true, true, true, true, true, true, true, true, true, true, true, true] (by kernel_rfl) (by kernel_rfl) ?_
                    refine ED.done (by kernel_rfl) ?_
                    refine EQ.to ?_
                    refine EQ.keep [0, 3, 4, 35, 36, 37, 81] [(0, .int .i32 a6), (3, .int .i64 a9), (4, .int .u8 a10), (35, .slice (some ⟨g2031, 0, none⟩) l2032.length 3), (36, .int .i64 (l2032.length : Int)), (37, .int .i64 x2119), (81, .bool (true))] (by kernel_rfl) ?_
                    exact fun a ha => ⟨true, ha, (hS.re [1, 1] [] rfl (sub_self)), H⟩
                · rw [if_neg h2291] at H
                  have hS := hS.drew
                  refine EW.draw (B := B) (id := 8) (ops := C7.r.r.l.r.l.l.r.r.l.l.r.r.r.l.ops) [Ass.box 35 g2258 [.int .i64 ((l2032.getD x2119.toNat zS35).f0), .int .i64 ((l2032.getD x2119.toNat zS35).f1)], Ass.own 35 kS35 (some ⟨g2031, 0, none⟩) 3 l2032] [] (by kernel_rfl) (by kernel_rfl) ?_
                  have hN : Region.noSelect C7.r.r.l.r.l.l.r.r.l.l.r.r.r.l.ops = true := (by kernel_rfl)
                  have hF : freeAll C7.r.r.l.r.l.l.r.r.l.l.r.r.r.l.ops = true := (by kernel_rfl)
                  have hC : Core B [Ass.box 35 g2258 [.int .i64 ((l2032.getD x2119.toNat zS35).f0), .int .i64 ((l2032.getD x2119.toNat zS35).f1)], Ass.own 35 kS35 (some ⟨g2031, 0, none⟩) 3 l2032] [] _ := ⟨_, _, hS⟩
                  refine ED.quick hN hF hC [0, 1, 2, 3] [0, 3, 4, 12, 13, 14, 16, 35, 36, 37, 60] 21 [(0, .int .i32 a6), (3, .int .i64 a9), (4, .int .u8 a10), (12, .pointer (some ⟨g2258, 0, none⟩)), (13, .int .i32 t2262), (14, .bool (t2263)), (16, .bool (t2269)), (35, .slice (some ⟨g2031, 0, none⟩) l2032.length 3), (36, .int .i64 (l2032.length : Int)), (37, .int .i64 x2119), (60, .bool (!(decide (t2262 = t2268))))] #[true, true, true, true, false, false, false, false, false, false, false, false, false, false, false, false, false, false, false, false, false, false, false, false, false] (by kernel_rfl) (by kernel_rfl) ?_
                  refine ED.keep [0, 3, 4, 12, 13, 14, 16, 35, 36, 37, 60] [(0, .int .i32 a6), (3, .int .i64 a9), (4, .int .u8 a10), (12, .pointer (some ⟨g2258, 0, none⟩)), (13, .int .i32 t2262), (14, .bool (t2263)), (16, .bool (t2269)), (35, .slice (some ⟨g2031, 0, none⟩) l2032.length 3), (36, .int .i64 (l2032.length : Int)), (37, .int .i64 x2119), (60, .bool (!(decide (t2262 = t2268))))] (by kernel_rfl) ?_
                  refine ED.as' [(0, .int .i32 a6), (3, .int .i64 a9), (4, .int .u8 a10), (12, .pointer (some ⟨g2258, 0, none⟩)), (13, .int .i32 t2262), (14, .bool (t2263)), (16, .bool (t2269)), (35, .slice (some ⟨g2031, 0, none⟩) l2032.length 3), (36, .int .i64 (l2032.length : Int)), (37, .int .i64 x2119), (60, .bool (false))] (by simp only [dec_t h2289, Bool.not_true, Bool.not_false]) ?_
                  refine ED.quick hN hF hC [4, 5, 6, 7, 8] [0, 3, 4, 12, 13, 14, 35, 36, 37, 61, 62, 63, 65] 16 [(0, .int .i32 a6), (3, .int .i64 a9), (4, .int .u8 a10), (12, .pointer (some ⟨g2258, 0, none⟩)), (13, .int .i32 t2262), (14, .bool (t2263)), (35, .slice (some ⟨g2031, 0, none⟩) l2032.length 3), (36, .int .i64 (l2032.length : Int)), (37, .int .i64 x2119), (61, .bool (t2263)), (62, .bool (t2269)), (63, .bool (!((t2263 == t2269)))), (65, .bool (!((t2263 == t2269))))] #[true, true, true, true, true, true, true, true, true, false, false, false, false, false, false, false, false, false, false, false, false, false, false, false, false] (by kernel_rfl) (by kernel_rfl) ?_
                  refine ED.keep [0, 3, 4, 12, 13, 14, 35, 36, 37, 61, 62, 63, 65] [(0, .int .i32 a6), (3, .int .i64 a9), (4, .int .u8 a10), (12, .pointer (some ⟨g2258, 0, none⟩)), (13, .int .i32 t2262), (14, .bool (t2263)), (35, .slice (some ⟨g2031, 0, none⟩) l2032.length 3), (36, .int .i64 (l2032.length : Int)), (37, .int .i64 x2119), (61, .bool (t2263)), (62, .bool (t2269)), (63, .bool (!((t2263 == t2269)))), (65, .bool (!((t2263 == t2269))))] (by kernel_rfl) ?_
                  refine ED.as' [(0, .int .i32 a6), (3, .int .i64 a9), (4, .int .u8 a10), (12, .pointer (some ⟨g2258, 0, none⟩)), (13, .int .i32 t2262), (14, .bool (t2263)), (35, .slice (some ⟨g2031, 0, none⟩) l2032.length 3), (36, .int .i64 (l2032.length : Int)), (37, .int .i64 x2119), (61, .bool (t2263)), (62, .bool (t2269)), (63, .bool (false)), (65, .bool (false))] (by simp only [h2290, Bool.not_true, Bool.not_false]) ?_
                  refine ED.quick hN hF hC [9, 10] [0, 3, 4, 12, 13, 35, 36, 37, 61, 62, 63, 65, 66, 67] 14 [(0, .int .i32 a6), (3, .int .i64 a9), (4, .int .u8 a10), (12, .pointer (some ⟨g2258, 0, none⟩)), (13, .int .i32 t2262), (35, .slice (some ⟨g2031, 0, none⟩) l2032.length 3), (36, .int .i64 (l2032.length : Int)), (37, .int .i64 x2119), (61, .bool (t2263)), (62, .bool (t2269)), (63, .bool (false)), (65, .bool (false)), (66, .bool (t2263)), (67, .bool (t2263))] #[true, true, true, true, true, true, true, true, true, true, true, false, false, false, false, false, false, false, false, false, false, false, false, false, false] (by kernel_rfl) (by kernel_rfl) ?_
                  refine ED.keep [0, 3, 4, 12, 13, 35, 36, 37, 61, 62, 63, 65, 66, 67] [(0, .int .i32 a6), (3, .int .i64 a9), (4, .int .u8 a10), (12, .pointer (some ⟨g2258, 0, none⟩)), (13, .int .i32 t2262), (35, .slice (some ⟨g2031, 0, none⟩) l2032.length 3), (36, .int .i64 (l2032.length : Int)), (37, .int .i64 x2119), (61, .bool (t2263)), (62, .bool (t2269)), (63, .bool (false)), (65, .bool (false)), (66, .bool (t2263)), (67, .bool (t2263))] (by kernel_rfl) ?_
                  refine ED.as' [(0, .int .i32 a6), (3, .int .i64 a9), (4, .int .u8 a10), (12, .pointer (some ⟨g2258, 0, none⟩)), (13, .int .i32 t2262), (35, .slice (some ⟨g2031, 0, none⟩) l2032.length 3), (36, .int .i64 (l2032.length : Int)), (37, .int .i64 x2119), (61, .bool (false)), (62, .bool (t2269)), (63, .bool (false)), (65, .bool (false)), (66, .bool (false)), (67, .bool (false))] (by simp only [(Bool.eq_false_iff.2 h2291), Bool.not_true, Bool.not_false]) ?_
                  refine ED.quick hN hF hC [11, 12, 13, 14, 15, 16, 17, 18, 19, 20, 21, 22, 23, 24] [0, 3, 4, 35, 36, 37, 61, 62, 63, 66, 67, 68, 69, 70, 71, 72, 73, 74, 75, 76, 77, 78, 79, 80, 81] 0 [(0, .int .i32 a6), (3, .int .i64 a9), (4, .int .u8 a10), (35, .slice (some ⟨g2031, 0, none⟩) l2032.length 3), (36, .int .i64 (l2032.length : Int)), (37, .int .i64 x2119), (61, .bool (false)), (62, .bool (t2269)), (63, .bool (false)), (66, .bool (false)), (67, .bool (false)), (68, undef), (69, undef), (70, undef), (71, undef), (72, undef), (73, undef), (74, undef), (75, undef), (76, undef), (77, undef), (78, undef), (79, undef), (80, .bool (false)), (81, .bool (false))] #[true, true, true, true, true, true, true, true, true, true, true, true, true, true, true, true, true, true, true, true, true, true, true, true, true] (by kernel_rfl) (by kernel_rfl) ?_
                  refine ED.done (by kernel_rfl) ?_
                  refine EQ.to ?_
                  refine EQ.keep [0, 3, 4, 35, 36, 37, 81] [(0, .int .i32 a6), (3, .int .i64 a9), (4, .int .u8 a10), (35, .slice (some ⟨g2031, 0, none⟩) l2032.length 3), (36, .int .i64 (l2032.length : Int)), (37, .int .i64 x2119), (81, .bool (false))] (by kernel_rfl) ?_
                  exact fun a ha => ⟨false, ha, (hS.re [1, 1] [] rfl (sub_self)), H⟩
              · rw [if_neg h2290] at H
                have hS := hS.drew
                refine EW.draw (B := B) (id := 8) (ops := C7.r.r.l.r.l.l.r.r.l.l.r.r.r.l.ops) [Ass.box 35 g2258 [.int .i64 ((l2032.getD x2119.toNat zS35).f0), .int .i64 ((l2032.getD x2119.toNat zS35).f1)], Ass.own 35 kS35 (some ⟨g2031, 0, none⟩) 3 l2032] [] (by kernel_rfl) (by kernel_rfl) ?_
                have hN : Region.noSelect C7.r.r.l.r.l.l.r.r.l.l.r.r.r.l.ops = true := (by kernel_rfl)
                have hF : freeAll C7.r.r.l.r.l.l.r.r.l.l.r.r.r.l.ops = true := (by kernel_rfl)
                have hC : Core B [Ass.box 35 g2258 [.int .i64 ((l2032.getD x2119.toNat zS35).f0), .int .i64 ((l2032.getD x2119.toNat zS35).f1)], Ass.own 35 kS35 (some ⟨g2031, 0, none⟩) 3 l2032] [] _ := ⟨_, _, hS⟩
                refine ED.quick hN hF hC [0, 1, 2, 3] [0, 3, 4, 12, 13, 14, 16, 35, 36, 37, 60] 21 [(0, .int .i32 a6), (3, .int .i64 a9), (4, .int .u8 a10), (12, .pointer (some ⟨g2258, 0, none⟩)), (13, .int .i32 t2262), (14, .bool (t2263)), (16, .bool (t2269)), (35, .slice (some ⟨g2031, 0, none⟩) l2032.length 3), (36, .int .i64 (l2032.length : Int)), (37, .int .i64 x2119), (60, .bool (!(decide (t2262 = t2268))))] #[true, true, true, true, false, false, false, false, false, false, false, false, false, false, false, false, false, false, false, false, false, false, false, false, false] (by kernel_rfl) (by kernel_rfl) ?_
                refine ED.keep [0, 3, 4, 12, 13, 14, 16, 35, 36, 37, 60] [(0, .int .i32 a6), (3, .int .i64 a9), (4, .int .u8 a10), (12, .pointer (some ⟨g2258, 0, none⟩)), (13, .int .i32 t2262), (14, .bool (t2263)), (16, .bool (t2269)), (35, .slice (some ⟨g2031, 0, none⟩) l2032.length 3), (36, .int .i64 (l2032.length : Int)), (37, .int .i64 x2119), (60, .bool (!(decide (t2262 = t2268))))] (by kernel_rfl) ?_
                refine ED.as' [(0, .int .i32 a6), (3, .int .i64 a9), (4, .int .u8 a10), (12, .pointer (some ⟨g2258, 0, none⟩)), (13, .int .i32 t2262), (14, .bool (t2263)), (16, .bool (t2269)), (35, .slice (some ⟨g2031, 0, none⟩) l2032.length 3), (36, .int .i64 (l2032.length : Int)), (37, .int .i64 x2119), (60, .bool (false))] (by simp only [dec_t h2289, Bool.not_true, Bool.not_false]) ?_
                refine ED.quick hN hF hC [4, 5, 6, 7, 8] [0, 3, 4, 12, 13, 14, 35, 36, 37, 61, 62, 63, 65] 16 [(0, .int .i32 a6), (3, .int .i64 a9), (4, .int .u8 a10), (12, .pointer (some ⟨g2258, 0, none⟩)), (13, .int .i32 t2262), (14, .bool (t2263)), (35, .slice (some ⟨g2031, 0, none⟩) l2032.length 3), (36, .int .i64 (l2032.length : Int)), (37, .int .i64 x2119), (61, .bool (t2263)), (62, .bool (t2269)), (63, .bool (!((t2263 == t2269)))), (65, .bool (!((t2263 == t2269))))] #[true, true, true, true, true, true, true, true, true, false, false, false, false, false, false, false, false, false, false, false, false, false, false, false, false] (by kernel_rfl) (by kernel_rfl) ?_
                refine ED.keep [0, 3, 4, 12, 13, 14, 35, 36, 37, 61, 62, 63, 65] [(0, .int .i32 a6), (3, .int .i64 a9), (4, .int .u8 a10), (12, .pointer (some ⟨g2258, 0, none⟩)), (13, .int .i32 t2262), (14, .bool (t2263)), (35, .slice (some ⟨g2031, 0, none⟩) l2032.length 3), (36, .int .i64 (l2032.length : Int)), (37, .int .i64 x2119), (61, .bool (t2263)), (62, .bool (t2269)), (63, .bool (!((t2263 == t2269)))), (65, .bool (!((t2263 == t2269))))] (by kernel_rfl) ?_
                refine ED.as' [(0, .int .i32 a6), (3, .int .i64 a9), (4, .int .u8 a10), (12, .pointer (some ⟨g2258, 0, none⟩)), (13, .int .i32 t2262), (14, .bool (t2263)), (35, .slice (some ⟨g2031, 0, none⟩) l2032.length 3), (36, .int .i64 (l2032.length : Int)), (37, .int .i64 x2119), (61, .bool (t2263)), (62, .bool (t2269)), (63, .bool (true)), (65, .bool (true))] (by simp only [(Bool.eq_false_iff.2 h2290), Bool.not_true, Bool.not_false]) ?_
                refine ED.quick hN hF hC [9, 10, 11, 12, 13, 14, 15, 16, 17, 18, 19, 20, 21, 22, 23, 24] [0, 3, 4, 35, 36, 37, 61, 62, 63, 66, 67, 68, 69, 70, 71, 72, 73, 74, 75, 76, 77, 78, 79, 80, 81] 0 [(0, .int .i32 a6), (3, .int .i64 a9), (4, .int .u8 a10), (35, .slice (some ⟨g2031, 0, none⟩) l2032.length 3), (36, .int .i64 (l2032.length : Int)), (37, .int .i64 x2119), (61, .bool (t2263)), (62, .bool (t2269)), (63, .bool (true)), (66, undef), (67, undef), (68, undef), (69, undef), (70, undef), (71, undef), (72, undef), (73, undef), (74, undef), (75, undef), (76, undef), (77, undef), (78, undef), (79, undef), (80, undef), (81, .bool (true))] #[true, true, true, true, true, true, true, true, true, true, true, true, true, true, true, true, true, true, true, true, true, true, true, true, true] (by kernel_rfl) (by kernel_rfl) ?_
                refine ED.done (by kernel_rfl) ?_
                refine EQ.to ?_
                refine EQ.keep [0, 3, 4, 35, 36, 37, 81] [(0, .int .i32 a6), (3, .int .i64 a9), (4, .int .u8 a10), (35, .slice (some ⟨g2031, 0, none⟩) l2032.length 3), (36, .int .i64 (l2032.length : Int)), (37, .int .i64 x2119), (81, .bool (true))] (by kernel_rfl) ?_
                exact fun a ha => ⟨true, ha, (hS.re [1, 1] [] rfl (sub_self)), H⟩
            · rw [if_neg h2289] at H
              have hS := hS.drew
              refine EW.draw (B := B) (id := 8) (ops := C7.r.r.l.r.l.l.r.r.l.l.r.r.r.l.ops) [Ass.box 35 g2258 [.int .i64 ((l2032.getD x2119.toNat zS35).f0), .int .i64 ((l2032.getD x2119.toNat zS35).f1)], Ass.own 35 kS35 (some ⟨g2031, 0, none⟩) 3 l2032] [] (by kernel_rfl) (by kernel_rfl) ?_
              have hN : Region.noSelect C7.r.r.l.r.l.l.r.r.l.l.r.r.r.l.ops = true := (by kernel_rfl)
              have hF : freeAll C7.r.r.l.r.l.l.r.r.l.l.r.r.r.l.ops = true := (by kernel_rfl)
              have hC : Core B [Ass.box 35 g2258 [.int .i64 ((l2032.getD x2119.toNat zS35).f0), .int .i64 ((l2032.getD x2119.toNat zS35).f1)], Ass.own 35 kS35 (some ⟨g2031, 0, none⟩) 3 l2032] [] _ := ⟨_, _, hS⟩
              refine ED.quick hN hF hC [0, 1, 2, 3] [0, 3, 4, 12, 13, 14, 16, 35, 36, 37, 60] 21 [(0, .int .i32 a6), (3, .int .i64 a9), (4, .int .u8 a10), (12, .pointer (some ⟨g2258, 0, none⟩)), (13, .int .i32 t2262), (14, .bool (t2263)), (16, .bool (t2269)), (35, .slice (some ⟨g2031, 0, none⟩) l2032.length 3), (36, .int .i64 (l2032.length : Int)), (37, .int .i64 x2119), (60, .bool (!(decide (t2262 = t2268))))] #[true, true, true, true, false, false, false, false, false, false, false, false, false, false, false, false, false, false, false, false, false, false, false, false, false] (by kernel_rfl) (by kernel_rfl) ?_
              refine ED.keep [0, 3, 4, 12, 13, 14, 16, 35, 36, 37, 60] [(0, .int .i32 a6), (3, .int .i64 a9), (4, .int .u8 a10), (12, .pointer (some ⟨g2258, 0, none⟩)), (13, .int .i32 t2262), (14, .bool (t2263)), (16, .bool (t2269)), (35, .slice (some ⟨g2031, 0, none⟩) l2032.length 3), (36, .int .i64 (l2032.length : Int)), (37, .int .i64 x2119), (60, .bool (!(decide (t2262 = t2268))))] (by kernel_rfl) ?_
              refine ED.as' [(0, .int .i32 a6), (3, .int .i64 a9), (4, .int .u8 a10), (12, .pointer (some ⟨g2258, 0, none⟩)), (13, .int .i32 t2262), (14, .bool (t2263)), (16, .bool (t2269)), (35, .slice (some ⟨g2031, 0, none⟩) l2032.length 3), (36, .int .i64 (l2032.length : Int)), (37, .int .i64 x2119), (60, .bool (true))] (by simp only [dec_f h2289, Bool.not_true, Bool.not_false]) ?_
              refine ED.quick hN hF hC [4, 5, 6, 7, 8, 9, 10, 11, 12, 13, 14, 15, 16, 17, 18, 19, 20, 21, 22, 23, 24] [0, 3, 4, 35, 36, 37, 61, 62, 63, 66, 67, 68, 69, 70, 71, 72, 73, 74, 75, 76, 77, 78, 79, 80, 81] 0 [(0, .int .i32 a6), (3, .int .i64 a9), (4, .int .u8 a10), (35, .slice (some ⟨g2031, 0, none⟩) l2032.length 3), (36, .int .i64 (l2032.length : Int)), (37, .int .i64 x2119), (61, undef), (62, undef), (63, undef), (66, undef), (67, undef), (68, undef), (69, undef), (70, undef), (71, undef), (72, undef), (73, undef), (74, undef), (75, undef), (76, undef), (77, undef), (78, undef), (79, undef), (80, undef), (81, .bool (true))] #[true, true, true, true, true, true, true, true, true, true, true, true, true, true, true, true, true, true, true, true, true, true, true, true, true] (by kernel_rfl) (by kernel_rfl) ?_
              refine ED.done (by kernel_rfl) ?_
              refine EQ.to ?_
              refine EQ.keep [0, 3, 4, 35, 36, 37, 81] [(0, .int .i32 a6), (3, .int .i64 a9), (4, .int .u8 a10), (35, .slice (some ⟨g2031, 0, none⟩) l2032.length 3), (36, .int .i64 (l2032.length : Int)), (37, .int .i64 x2119), (81, .bool (true))] (by kernel_rfl) ?_
              exact fun a ha => ⟨true, ha, (hS.re [1, 1] [] rfl (sub_self)), H⟩
          · obtain ⟨x2287, ha, hS, H⟩ := hI
            rw [hj2288] at H
            (try dsimp only at H)
            refine EW.at ?_ a ha
            clear ha a
            refine EW.condP' (o := (.tmp 81)) (x := C7.r.r.l.r.l.l.r.r.l.l.r.r.r.r.l) (y := C7.r.r.l.r.l.l.r.r.l.l.r.r.r.r.r) (x2287) (by kernel_rfl) (by kernel_rfl) (fun h2297 => ?_) (fun h2297 => ?_)
            · rw [if_pos h2297] at H
              refine EW.seq (x := C7.r.r.l.r.l.l.r.r.l.l.r.r.r.r.l.l) (y := C7.r.r.l.r.l.l.r.r.l.l.r.r.r.r.l.r) (by kernel_rfl) ?_
              refine EW.region (id := 9) (ops := C7.r.r.l.r.l.l.r.r.l.l.r.r.r.r.l.l.ops) (by kernel_rfl) ?_
              refine EL.quick 1 [10] [(10, .bool (false))] (by kernel_rfl) ?_
              refine EL.done (by kernel_rfl) ?_
              refine EQ.code ?_
              refine EW.ret (by kernel_rfl) ?_
              refine EQ.ret ?_
              refine EQ.ret ?_
              refine EQ.ret ?_
              refine EQ.ret ?_
              refine EQ.ret ?_
              obtain rfl := Option.some.inj H
              exact EQ.leave (.bool (false)) (by kernel_rfl) ⟨_, rfl, rfl, (hS.re [] [0, 0] rfl (sub_self))⟩
            · rw [if_neg h2297] at H
              refine EW.skip (by kernel_rfl) ?_
              refine EQ.pop ?_
              refine EQ.code ?_
              refine EW.region (id := 10) (ops := C7.r.r.l.r.l.l.r.r.r.ops) (by kernel_rfl) ?_
              refine EL.quick 2 [0, 3, 4, 35, 36, 37] [(0, .int .i32 a6), (3, .int .i64 a9), (4, .int .u8 a10), (35, .slice (some ⟨g2031, 0, none⟩) l2032.length 3), (36, .int .i64 (l2032.length : Int)), (37, .int .i64 (IntKind.i64.wrap (x2119 + 1)))] (by kernel_rfl) ?_
              refine EL.done (by kernel_rfl) ?_
              refine EQ.to ?_
              refine EQ.keep [0, 3, 4, 35, 36, 37] [(0, .int .i32 a6), (3, .int .i64 a9), (4, .int .u8 a10), (35, .slice (some ⟨g2031, 0, none⟩) l2032.length 3), (36, .int .i64 (l2032.length : Int)), (37, .int .i64 (IntKind.i64.wrap (x2119 + 1)))] (by kernel_rfl) ?_
              exact fun a ha => ⟨n, Nat.lt_succ_self n, IntKind.i64.wrap (x2119 + 1), ha, (hS.re [1] [1] rfl (sub_self)), H⟩
        · rw [if_neg h2211] at H
          refine EW.exit (id := 0) (by kernel_rfl) ?_
          refine EQ.exitCode ?_
          refine EQ.exitTo ?_
          refine EQ.exitHere ?_
          refine EQ.to ?_
          refine EQ.keep [0, 3, 4] [(0, .int .i32 a6), (3, .int .i64 a9), (4, .int .u8 a10)] (by kernel_rfl) ?_
          exact fun a ha => ⟨l2032, (some ⟨g2031, 0, none⟩), 3, ha, (hS.re [0] [] rfl (sub_self)), H⟩
    · obtain ⟨x2025, A2026, C2027, ha, hS, H⟩ := hI
      rw [hj2028] at H
      (try dsimp only at H)
      refine EW.at ?_ a ha
      clear ha a
      refine EW.seq (x := C7.r.r.r.l) (y := C7.r.r.r.r) (by kernel_rfl) ?_
      refine EW.seq (x := C7.r.r.r.l.l) (y := C7.r.r.r.l.r) (by kernel_rfl) ?_
      refine EW.region (id := 11) (ops := C7.r.r.r.l.l.ops) (by kernel_rfl) ?_
      refine EL.quick 5 [3, 4, 83, 85, 87] [(3, .int .i64 a9), (4, .int .u8 a10), (83, .int .i32 a6), (85, .int .i32 (bA .i32 a6 2097151)), (87, .int .i32 (IntKind.i32.wrap (0 - a6)))] (by kernel_rfl) ?_
      obtain ⟨l2301, hl2301, H⟩ := lt_out H
      refine EL.of (EO.lit hS (Kd.int .i32) 21 40 3 #[(0, .int .i32 a6), (1, .int .i32 (bA .i32 a6 2097151)), (2, .int .i32 (IntKind.i32.wrap (0 - a6)))] [.int .i32 a6, .int .i32 (bA .i32 a6 2097151), .int .i32 (IntKind.i32.wrap (0 - a6))] l2301 88 (by kernel_rfl) (by kernel_rfl) (by kernel_rfl) (fun _ => (by kernel_rfl)) (by rw [hl2301]; rfl) (by kernel_rfl) (fun w G hr => (by rw [hl2301]; exact ⟨[.int .i32 a6], [.int .i32 (bA .i32 a6 2097151), .int .i32 (IntKind.i32.wrap (0 - a6))], rfl, rfl, ⟨[.int .i32 (bA .i32 a6 2097151)], [.int .i32 (IntKind.i32.wrap (0 - a6))], rfl, rfl, ⟨[.int .i32 (IntKind.i32.wrap (0 - a6))], [], rfl, rfl, rfl⟩⟩⟩)) ?_)
      intro g2300 w hS
      refine EL.quick 2 [3, 4, 88, 89, 90] [(3, .int .i64 a9), (4, .int .u8 a10), (88, .slice (some ⟨g2300, 0, none⟩) l2301.length 3), (89, .int .i64 (l2301.length : Int)), (90, .int .i64 0)] (by kernel_rfl) ?_
      refine EL.done (by kernel_rfl) ?_
      refine EQ.code ?_
      refine EW.block (x := C7.r.r.r.l.r.l) (id := 2) (by kernel_rfl) ?_
      refine EW.loop (x := C7.r.r.r.l.r.l.l) (fun n a w => ∃ x2426 : Int, Sat 129 [(3, .int .i64 a9), (4, .int .u8 a10), (88, .slice (some ⟨g2300, 0, none⟩) l2301.length 3), (89, .int .i64 (l2301.length : Int)), (90, .int .i64 x2426)] a ∧ St B w (Ass.own 21 (Kd.int .i32) (some ⟨g2300, 0, none⟩) 3 l2301 :: Ass.own 35 kS35 A2026 C2027 x2025 :: os) (rs) ∧ confidantlaw11_IdentTells.l1 K l2301 a9 a10 n x2426 = some x1476) K (by kernel_rfl) ?_ (fun n a w hI => ?_)
      · refine EQ.keep [3, 4, 88, 89, 90] [(3, .int .i64 a9), (4, .int .u8 a10), (88, .slice (some ⟨g2300, 0, none⟩) l2301.length 3), (89, .int .i64 (l2301.length : Int)), (90, .int .i64 0)] (by kernel_rfl) ?_
        exact fun a ha => ⟨0, ha, (hS.re [1, 1] [] rfl (sub_self)), H⟩
      · obtain ⟨x2426, ha, hS, H⟩ := hI
        obtain _ | n := n
        · simp [confidantlaw11_IdentTells.l1] at H
        rw [confidantlaw11_IdentTells.l1.eq_2] at H
        refine EW.at ?_ a ha
        clear ha a
        refine EW.seq (x := C7.r.r.r.l.r.l.l.l) (y := C7.r.r.r.l.r.l.l.r) (by kernel_rfl) ?_
        refine EW.region (id := 12) (ops := C7.r.r.r.l.r.l.l.l.ops) (by kernel_rfl) ?_
        refine EL.quick 1 [3, 4, 88, 89, 90, 91] [(3, .int .i64 a9), (4, .int .u8 a10), (88, .slice (some ⟨g2300, 0, none⟩) l2301.length 3), (89, .int .i64 (l2301.length : Int)), (90, .int .i64 x2426), (91, .bool (decide (x2426 < (l2301.length : Int))))] (by kernel_rfl) ?_
        refine EL.done (by kernel_rfl) ?_
        refine EQ.code ?_
        refine EW.seq (x := C7.r.r.r.l.r.l.l.r.l) (y := C7.r.r.r.l.r.l.l.r.r) (by kernel_rfl) ?_
        refine EW.condP (o := (.tmp 91)) (x := C7.r.r.r.l.r.l.l.r.l.l) (y := C7.r.r.r.l.r.l.l.r.l.r) (x2426 < (l2301.length : Int)) (by kernel_rfl) (by kernel_rfl) (fun h2556 => ?_) (fun h2556 => ?_)
        · rw [if_pos h2556] at H
          refine EW.skip (by kernel_rfl) ?_
          refine EQ.code ?_
          refine EW.seq (x := C7.r.r.r.l.r.l.l.r.r.l) (y := C7.r.r.r.l.r.l.l.r.r.r) (by kernel_rfl) ?_
          refine EW.block (x := C7.r.r.r.l.r.l.l.r.r.l.l) (id := 3) (by kernel_rfl) ?_
          refine EW.seq (x := C7.r.r.r.l.r.l.l.r.r.l.l.l) (y := C7.r.r.r.l.r.l.l.r.r.l.l.r) (by kernel_rfl) ?_
          refine EW.region (id := 13) (ops := C7.r.r.r.l.r.l.l.r.r.l.l.l.ops) (by kernel_rfl) ?_
          obtain ⟨h2620, H⟩ := ite_in H
          refine EL.of (EO.Y (YO.idx 40 1 ⟨g2300, 0, none⟩ l2301.length 3 .i64 x2426 92 (by kernel_rfl) (by kernel_rfl) (by kernel_rfl) (by kernel_rfl) h2620 h2556) ?_)
          refine EL.of (EO.Y (YO.loadEl hS (Kd.int .i32) ⟨g2300, 0, none⟩ 3 l2301 (Rd.own 0 21 rfl) 0 (encI .i32) encI_of x2426 h2620 h2556 21 1 0 1 rfl (.int .i32 (l2301.getD x2426.toNat 0)) 93 (by kernel_rfl) (by kernel_rfl) (by kernel_rfl) (by kernel_rfl)) ?_)
          refine EL.quick 1 [3, 4, 18, 88, 89, 90] [(3, .int .i64 a9), (4, .int .u8 a10), (18, .int .i32 (l2301.getD x2426.toNat 0)), (88, .slice (some ⟨g2300, 0, none⟩) l2301.length 3), (89, .int .i64 (l2301.length : Int)), (90, .int .i64 x2426)] (by kernel_rfl) ?_
          refine EL.done (by kernel_rfl) ?_
          refine EQ.code ?_
          obtain ⟨j2660, hj2660, H⟩ := lt_out H
          refine EW.cut (x := C7.r.r.r.l.r.l.l.r.r.l.l.r.l) (y := C7.r.r.r.l.r.l.l.r.r.l.l.r.r) (fun a w => ∃ x2659 : Bool, Sat 129 [(3, .int .i64 a9), (4, .int .u8 a10), (88, .slice (some ⟨g2300, 0, none⟩) l2301.length 3), (89, .int .i64 (l2301.length : Int)), (90, .int .i64 x2426), (127, .bool (x2659))] a ∧ St B w (Ass.own 21 (Kd.int .i32) (some ⟨g2300, 0, none⟩) 3 l2301 :: Ass.own 35 kS35 A2026 C2027 x2025 :: os) (rs) ∧ j2660 x2659 = some x1476) (by kernel_rfl) ?_ (fun a w hI => ?_)
          · refine EW.region (id := 14) (ops := C7.r.r.r.l.r.l.l.r.r.l.l.r.l.ops) (by kernel_rfl) ?_
            refine EL.quick 1 [3, 4, 18, 88, 89, 90, 94] [(3, .int .i64 a9), (4, .int .u8 a10), (18, .int .i32 (l2301.getD x2426.toNat 0)), (88, .slice (some ⟨g2300, 0, none⟩) l2301.length 3), (89, .int .i64 (l2301.length : Int)), (90, .int .i64 x2426), (94, .int .i32 (l2301.getD x2426.toNat 0))] (by kernel_rfl) ?_
            obtain ⟨t2661, hc2662, H⟩ := b1_out H
            refine EL.of (EO.callD 23 [.int .i32 (l2301.getD x2426.toNat 0)] _ 95 (by kernel_rfl) (by kernel_rfl) (by kernel_rfl) (ident_Label.calls hc2662 hS) ?_)
            rintro v w ⟨rfl, hS⟩
            refine EL.quick 1 [3, 4, 18, 88, 89, 90, 95, 96] [(3, .int .i64 a9), (4, .int .u8 a10), (18, .int .i32 (l2301.getD x2426.toNat 0)), (88, .slice (some ⟨g2300, 0, none⟩) l2301.length 3), (89, .int .i64 (l2301.length : Int)), (90, .int .i64 x2426), (95, .int .i64 t2661), (96, .int .i32 (l2301.getD x2426.toNat 0))] (by kernel_rfl) ?_
            obtain ⟨t2663, hc2664, H⟩ := b1_out H
            refine EL.of (EO.callD 25 [.int .i32 (l2301.getD x2426.toNat 0)] _ 97 (by kernel_rfl) (by kernel_rfl) (by kernel_rfl) (confidantref9_Label.calls hc2664 hS) ?_)
            rintro v w ⟨rfl, hS⟩
            refine EL.quick 2 [3, 4, 18, 88, 89, 90, 99] [(3, .int .i64 a9), (4, .int .u8 a10), (18, .int .i32 (l2301.getD x2426.toNat 0)), (88, .slice (some ⟨g2300, 0, none⟩) l2301.length 3), (89, .int .i64 (l2301.length : Int)), (90, .int .i64 x2426), (99, .bool (!(decide (t2661 = t2663))))] (by kernel_rfl) ?_
            by_cases h2665 : t2661 = t2663
            · rw [if_pos h2665] at H
              refine EL.keep [3, 4, 18, 88, 89, 90, 99] [(3, .int .i64 a9), (4, .int .u8 a10), (18, .int .i32 (l2301.getD x2426.toNat 0)), (88, .slice (some ⟨g2300, 0, none⟩) l2301.length 3), (89, .int .i64 (l2301.length : Int)), (90, .int .i64 x2426), (99, .bool (!(decide (t2661 = t2663))))] (by kernel_rfl) ?_
              refine EL.as' [(3, .int .i64 a9), (4, .int .u8 a10), (18, .int .i32 (l2301.getD x2426.toNat 0)), (88, .slice (some ⟨g2300, 0, none⟩) l2301.length 3), (89, .int .i64 (l2301.length : Int)), (90, .int .i64 x2426), (99, .bool (false))] (by simp only [dec_t h2665, Bool.not_true, Bool.not_false]) ?_
              refine EL.quick 1 [3, 4, 18, 88, 89, 90, 99, 100] [(3, .int .i64 a9), (4, .int .u8 a10), (18, .int .i32 (l2301.getD x2426.toNat 0)), (88, .slice (some ⟨g2300, 0, none⟩) l2301.length 3), (89, .int .i64 (l2301.length : Int)), (90, .int .i64 x2426), (99, .bool (false)), (100, .int .i32 (l2301.getD x2426.toNat 0))] (by kernel_rfl) ?_
              obtain ⟨t2666, hc2667, H⟩ := b1_out H
              refine EL.of (EO.callD 24 [.int .i32 (l2301.getD x2426.toNat 0)] _ 101 (by kernel_rfl) (by kernel_rfl) (by kernel_rfl) (ident_Number.calls hc2667 hS) ?_)
              rintro v w ⟨rfl, hS⟩
              refine EL.quick 1 [3, 4, 18, 88, 89, 90, 99, 100, 101, 102] [(3, .int .i64 a9), (4, .int .u8 a10), (18, .int .i32 (l2301.getD x2426.toNat 0)), (88, .slice (some ⟨g2300, 0, none⟩) l2301.length 3), (89, .int .i64 (l2301.length : Int)), (90, .int .i64 x2426), (99, .bool (false)), (100, .int .i32 (l2301.getD x2426.toNat 0)), (101, .int .i64 t2666), (102, .int .i32 (l2301.getD x2426.toNat 0))] (by kernel_rfl) ?_
              obtain ⟨t2668, hc2669, H⟩ := b1_out H
              refine EL.of (EO.callD 26 [.int .i32 (l2301.getD x2426.toNat 0)] _ 103 (by kernel_rfl) (by kernel_rfl) (by kernel_rfl) (confidantref9_Number.calls hc2669 hS) ?_)
              rintro v w ⟨rfl, hS⟩
              refine EL.quick 3 [3, 4, 18, 88, 89, 90, 100, 101, 102, 103, 104, 106] [(3, .int .i64 a9), (4, .int .u8 a10), (18, .int .i32 (l2301.getD x2426.toNat 0)), (88, .slice (some ⟨g2300, 0, none⟩) l2301.length 3), (89, .int .i64 (l2301.length : Int)), (90, .int .i64 x2426), (100, .int .i32 (l2301.getD x2426.toNat 0)), (101, .int .i64 t2666), (102, .int .i32 (l2301.getD x2426.toNat 0)), (103, .int .i64 t2668), (104, .bool (!(decide (t2666 = t2668)))), (106, .bool (!(decide (t2666 = t2668))))] (by kernel_rfl) ?_
              by_cases h2670 : t2666 = t2668
              · rw [if_pos h2670] at H
                refine EL.keep [3, 4, 18, 88, 89, 90, 100, 101, 102, 103, 104, 106] [(3, .int .i64 a9), (4, .int .u8 a10), (18, .int .i32 (l2301.getD x2426.toNat 0)), (88, .slice (some ⟨g2300, 0, none⟩) l2301.length 3), (89, .int .i64 (l2301.length : Int)), (90, .int .i64 x2426), (100, .int .i32 (l2301.getD x2426.toNat 0)), (101, .int .i64 t2666), (102, .int .i32 (l2301.getD x2426.toNat 0)), (103, .int .i64 t2668), (104, .bool (!(decide (t2666 = t2668)))), (106, .bool (!(decide (t2666 = t2668))))] (by kernel_rfl) ?_
                refine EL.as' [(3, .int .i64 a9), (4, .int .u8 a10), (18, .int .i32 (l2301.getD x2426.toNat 0)), (88, .slice (some ⟨g2300, 0, none⟩) l2301.length 3), (89, .int .i64 (l2301.length : Int)), (90, .int .i64 x2426), (100, .int .i32 (l2301.getD x2426.toNat 0)), (101, .int .i64 t2666), (102, .int .i32 (l2301.getD x2426.toNat 0)), (103, .int .i64 t2668), (104, .bool (false)), (106, .bool (false))] (by simp only [dec_t h2670, Bool.not_true, Bool.not_false]) ?_
                refine EL.quick 2 [3, 4, 18, 88, 89, 90, 100, 101, 102, 103, 104, 106, 107, 108] [(3, .int .i64 a9), (4, .int .u8 a10), (18, .int .i32 (l2301.getD x2426.toNat 0)), (88, .slice (some ⟨g2300, 0, none⟩) l2301.length 3), (89, .int .i64 (l2301.length : Int)), (90, .int .i64 x2426), (100, .int .i32 (l2301.getD x2426.toNat 0)), (101, .int .i64 t2666), (102, .int .i32 (l2301.getD x2426.toNat 0)), (103, .int .i64 t2668), (104, .bool (false)), (106, .bool (false)), (107, .int .i32 (l2301.getD x2426.toNat 0)), (108, .int .i64 a9)] (by kernel_rfl) ?_
                obtain ⟨t2671, hc2672, H⟩ := b1_out H
                refine EL.of (EO.callD 27 [.int .i32 (l2301.getD x2426.toNat 0), .int .i64 a9] _ 109 (by kernel_rfl) (by kernel_rfl) (by kernel_rfl) (ident_Valid.calls hc2672 hS) ?_)
                rintro v w ⟨rfl, hS⟩
                refine EL.quick 2 [3, 4, 18, 88, 89, 90, 100, 101, 102, 103, 104, 106, 107, 108, 109, 110, 111] [(3, .int .i64 a9), (4, .int .u8 a10), (18, .int .i32 (l2301.getD x2426.toNat 0)), (88, .slice (some ⟨g2300, 0, none⟩) l2301.length 3), (89, .int .i64 (l2301.length : Int)), (90, .int .i64 x2426), (100, .int .i32 (l2301.getD x2426.toNat 0)), (101, .int .i64 t2666), (102, .int .i32 (l2301.getD x2426.toNat 0)), (103, .int .i64 t2668), (104, .bool (false)), (106, .bool (false)), (107, .int .i32 (l2301.getD x2426.toNat 0)), (108, .int .i64 a9), (109, .bool (t2671)), (110, .int .i32 (l2301.getD x2426.toNat 0)), (111, .int .i64 a9)] (by kernel_rfl) ?_
                obtain ⟨t2673, hc2674, H⟩ := b1_out H
                refine EL.of (EO.callD 28 [.int .i32 (l2301.getD x2426.toNat 0), .int .i64 a9] _ 112 (by kernel_rfl) (by kernel_rfl) (by kernel_rfl) (confidantref9_Valid.calls hc2674 hS) ?_)
                rintro v w ⟨rfl, hS⟩
                refine EL.quick 3 [3, 4, 18, 88, 89, 90, 100, 101, 102, 103, 104, 107, 108, 109, 110, 111, 112, 113, 115] [(3, .int .i64 a9), (4, .int .u8 a10), (18, .int .i32 (l2301.getD x2426.toNat 0)), (88, .slice (some ⟨g2300, 0, none⟩) l2301.length 3), (89, .int .i64 (l2301.length : Int)), (90, .int .i64 x2426), (100, .int .i32 (l2301.getD x2426.toNat 0)), (101, .int .i64 t2666), (102, .int .i32 (l2301.getD x2426.toNat 0)), (103, .int .i64 t2668), (104, .bool (false)), (107, .int .i32 (l2301.getD x2426.toNat 0)), (108, .int .i64 a9), (109, .bool (t2671)), (110, .int .i32 (l2301.getD x2426.toNat 0)), (111, .int .i64 a9), (112, .bool (t2673)), (113, .bool (!((t2671 == t2673)))), (115, .bool (!((t2671 == t2673))))] (by kernel_rfl) ?_
                by_cases h2675 : (t2671 == t2673) = true
                · rw [if_pos h2675] at H
                  refine EL.keep [3, 4, 18, 88, 89, 90, 100, 101, 102, 103, 104, 107, 108, 109, 110, 111, 112, 113, 115] [(3, .int .i64 a9), (4, .int .u8 a10), (18, .int .i32 (l2301.getD x2426.toNat 0)), (88, .slice (some ⟨g2300, 0, none⟩) l2301.length 3), (89, .int .i64 (l2301.length : Int)), (90, .int .i64 x2426), (100, .int .i32 (l2301.getD x2426.toNat 0)), (101, .int .i64 t2666), (102, .int .i32 (l2301.getD x2426.toNat 0)), (103, .int .i64 t2668), (104, .bool (false)), (107, .int .i32 (l2301.getD x2426.toNat 0)), (108, .int .i64 a9), (109, .bool (t2671)), (110, .int .i32 (l2301.getD x2426.toNat 0)), (111, .int .i64 a9), (112, .bool (t2673)), (113, .bool (!((t2671 == t2673)))), (115, .bool (!((t2671 == t2673))))] (by kernel_rfl) ?_
                  refine EL.as' [(3, .int .i64 a9), (4, .int .u8 a10), (18, .int .i32 (l2301.getD x2426.toNat 0)), (88, .slice (some ⟨g2300, 0, none⟩) l2301.length 3), (89, .int .i64 (l2301.length : Int)), (90, .int .i64 x2426), (100, .int .i32 (l2301.getD x2426.toNat 0)), (101, .int .i64 t2666), (102, .int .i32 (l2301.getD x2426.toNat 0)), (103, .int .i64 t2668), (104, .bool (false)), (107, .int .i32 (l2301.getD x2426.toNat 0)), (108, .int .i64 a9), (109, .bool (t2671)), (110, .int .i32 (l2301.getD x2426.toNat 0)), (111, .int .i64 a9), (112, .bool (t2673)), (113, .bool (false)), (115, .bool (false))] (by simp only [h2675, Bool.not_true, Bool.not_false]) ?_
                  refine EL.quick 4 [3, 4, 18, 88, 89, 90, 100, 101, 102, 103, 104, 107, 108, 109, 110, 111, 112, 113, 115, 116, 117, 118, 119] [(3, .int .i64 a9), (4, .int .u8 a10), (18, .int .i32 (l2301.getD x2426.toNat 0)), (88, .slice (some ⟨g2300, 0, none⟩) l2301.length 3), (89, .int .i64 (l2301.length : Int)), (90, .int .i64 x2426), (100, .int .i32 (l2301.getD x2426.toNat 0)), (101, .int .i64 t2666), (102, .int .i32 (l2301.getD x2426.toNat 0)), (103, .int .i64 t2668), (104, .bool (false)), (107, .int .i32 (l2301.getD x2426.toNat 0)), (108, .int .i64 a9), (109, .bool (t2671)), (110, .int .i32 (l2301.getD x2426.toNat 0)), (111, .int .i64 a9), (112, .bool (t2673)), (113, .bool (false)), (115, .bool (false)), (116, .int .i32 (l2301.getD x2426.toNat 0)), (117, .int .u8 a10), (118, .int .u8 (Int.tmod a10 20)), (119, .int .i64 (IntKind.i64.wrap (Int.tmod a10 20)))] (by kernel_rfl) ?_
                  obtain ⟨t2676, hc2677, H⟩ := b1_out H
                  refine EL.of (EO.callD 27 [.int .i32 (l2301.getD x2426.toNat 0), .int .i64 (IntKind.i64.wrap (Int.tmod a10 20))] _ 120 (by kernel_rfl) (by kernel_rfl) (by kernel_rfl) (ident_Valid.calls hc2677 hS) ?_)
                  rintro v w ⟨rfl, hS⟩
                  refine EL.quick 4 [3, 4, 88, 89, 90, 100, 101, 102, 103, 104, 107, 108, 109, 110, 111, 112, 113, 115, 116, 117, 118, 119, 120, 121, 122, 123, 124] [(3, .int .i64 a9), (4, .int .u8 a10), (88, .slice (some ⟨g2300, 0, none⟩) l2301.length 3), (89, .int .i64 (l2301.length : Int)), (90, .int .i64 x2426), (100, .int .i32 (l2301.getD x2426.toNat 0)), (101, .int .i64 t2666), (102, .int .i32 (l2301.getD x2426.toNat 0)), (103, .int .i64 t2668), (104, .bool (false)), (107, .int .i32 (l2301.getD x2426.toNat 0)), (108, .int .i64 a9), (109, .bool (t2671)), (110, .int .i32 (l2301.getD x2426.toNat 0)), (111, .int .i64 a9), (112, .bool (t2673)), (113, .bool (false)), (115, .bool (false)), (116, .int .i32 (l2301.getD x2426.toNat 0)), (117, .int .u8 a10), (118, .int .u8 (Int.tmod a10 20)), (119, .int .i64 (IntKind.i64.wrap (Int.tmod a10 20))), (120, .bool (t2676)), (121, .int .i32 (l2301.getD x2426.toNat 0)), (122, .int .u8 a10), (123, .int .u8 (Int.tmod a10 20)), (124, .int .i64 (IntKind.i64.wrap (Int.tmod a10 20)))] (by kernel_rfl) ?_
                  obtain ⟨t2678, hc2679, H⟩ := b1_out H
                  refine EL.of (EO.callD 28 [.int .i32 (l2301.getD x2426.toNat 0), .int .i64 (IntKind.i64.wrap (Int.tmod a10 20))] _ 125 (by kernel_rfl) (by kernel_rfl) (by kernel_rfl) (confidantref9_Valid.calls hc2679 hS) ?_)
                  rintro v w ⟨rfl, hS⟩
                  refine EL.quick 2 [3, 4, 88, 89, 90, 100, 101, 102, 103, 104, 107, 108, 109, 110, 111, 112, 113, 116, 117, 118, 119, 120, 121, 122, 123, 124, 125, 126, 127] [(3, .int .i64 a9), (4, .int .u8 a10), (88, .slice (some ⟨g2300, 0, none⟩) l2301.length 3), (89, .int .i64 (l2301.length : Int)), (90, .int .i64 x2426), (100, .int .i32 (l2301.getD x2426.toNat 0)), (101, .int .i64 t2666), (102, .int .i32 (l2301.getD x2426.toNat 0)), (103, .int .i64 t2668), (104, .bool (false)), (107, .int .i32 (l2301.getD x2426.toNat 0)), (108, .int .i64 a9), (109, .bool (t2671)), (110, .int .i32 (l2301.getD x2426.toNat 0)), (111, .int .i64 a9), (112, .bool (t2673)), (113, .bool (false)), (116, .int .i32 (l2301.getD x2426.toNat 0)), (117, .int .u8 a10), (118, .int .u8 (Int.tmod a10 20)), (119, .int .i64 (IntKind.i64.wrap (Int.tmod a10 20))), (120, .bool (t2676)), (121, .int .i32 (l2301.getD x2426.toNat 0)), (122, .int .u8 a10), (123, .int .u8 (Int.tmod a10 20)), (124, .int .i64 (IntKind.i64.wrap (Int.tmod a10 20))), (125, .bool (t2678)), (126, .bool (!((t2676 == t2678)))), (127, .bool (!((t2676 == t2678))))] (by kernel_rfl) ?_
                  refine EL.done (by kernel_rfl) ?_
                  refine EQ.to ?_
                  refine EQ.keep [3, 4, 88, 89, 90, 127] [(3, .int .i64 a9), (4, .int .u8 a10), (88, .slice (some ⟨g2300, 0, none⟩) l2301.length 3), (89, .int .i64 (l2301.length : Int)), (90, .int .i64 x2426), (127, .bool (!((t2676 == t2678))))] (by kernel_rfl) ?_
                  exact fun a ha => ⟨!((t2676 == t2678)), ha, (hS.re [1, 1] [] rfl (sub_self)), H⟩
                · rw [if_neg h2675] at H
                  refine EL.keep [3, 4, 18, 88, 89, 90, 100, 101, 102, 103, 104, 107, 108, 109, 110, 111, 112, 113, 115] [(3, .int .i64 a9), (4, .int .u8 a10), (18, .int .i32 (l2301.getD x2426.toNat 0)), (88, .slice (some ⟨g2300, 0, none⟩) l2301.length 3), (89, .int .i64 (l2301.length : Int)), (90, .int .i64 x2426), (100, .int .i32 (l2301.getD x2426.toNat 0)), (101, .int .i64 t2666), (102, .int .i32 (l2301.getD x2426.toNat 0)), (103, .int .i64 t2668), (104, .bool (false)), (107, .int .i32 (l2301.getD x2426.toNat 0)), (108, .int .i64 a9), (109, .bool (t2671)), (110, .int .i32 (l2301.getD x2426.toNat 0)), (111, .int .i64 a9), (112, .bool (t2673)), (113, .bool (!((t2671 == t2673)))), (115, .bool (!((t2671 == t2673))))] (by kernel_rfl) ?_
                  refine EL.as' [(3, .int .i64 a9), (4, .int .u8 a10), (18, .int .i32 (l2301.getD x2426.toNat 0)), (88, .slice (some ⟨g2300, 0, none⟩) l2301.length 3), (89, .int .i64 (l2301.length : Int)), (90, .int .i64 x2426), (100, .int .i32 (l2301.getD x2426.toNat 0)), (101, .int .i64 t2666), (102, .int .i32 (l2301.getD x2426.toNat 0)), (103, .int .i64 t2668), (104, .bool (false)), (107, .int .i32 (l2301.getD x2426.toNat 0)), (108, .int .i64 a9), (109, .bool (t2671)), (110, .int .i32 (l2301.getD x2426.toNat 0)), (111, .int .i64 a9), (112, .bool (t2673)), (113, .bool (true)), (115, .bool (true))] (by simp only [(Bool.eq_false_iff.2 h2675), Bool.not_true, Bool.not_false]) ?_
                  refine EL.quick 12 [3, 4, 88, 89, 90, 100, 101, 102, 103, 104, 107, 108, 109, 110, 111, 112, 113, 127] [(3, .int .i64 a9), (4, .int .u8 a10), (88, .slice (some ⟨g2300, 0, none⟩) l2301.length 3), (89, .int .i64 (l2301.length : Int)), (90, .int .i64 x2426), (100, .int .i32 (l2301.getD x2426.toNat 0)), (101, .int .i64 t2666), (102, .int .i32 (l2301.getD x2426.toNat 0)), (103, .int .i64 t2668), (104, .bool (false)), (107, .int .i32 (l2301.getD x2426.toNat 0)), (108, .int .i64 a9), (109, .bool (t2671)), (110, .int .i32 (l2301.getD x2426.toNat 0)), (111, .int .i64 a9), (112, .bool (t2673)), (113, .bool (true)), (127, .bool (true))] (by kernel_rfl) ?_
                  refine EL.done (by kernel_rfl) ?_
                  refine EQ.to ?_
                  refine EQ.keep [3, 4, 88, 89, 90, 127] [(3, .int .i64 a9), (4, .int .u8 a10), (88, .slice (some ⟨g2300, 0, none⟩) l2301.length 3), (89, .int .i64 (l2301.length : Int)), (90, .int .i64 x2426), (127, .bool (true))] (by kernel_rfl) ?_
                  exact fun a ha => ⟨true, ha, (hS.re [1, 1] [] rfl (sub_self)), H⟩
              · rw [if_neg h2670] at H
                refine EL.keep [3, 4, 18, 88, 89, 90, 100, 101, 102, 103, 104, 106] [(3, .int .i64 a9), (4, .int .u8 a10), (18, .int .i32 (l2301.getD x2426.toNat 0)), (88, .slice (some ⟨g2300, 0, none⟩) l2301.length 3), (89, .int .i64 (l2301.length : Int)), (90, .int .i64 x2426), (100, .int .i32 (l2301.getD x2426.toNat 0)), (101, .int .i64 t2666), (102, .int .i32 (l2301.getD x2426.toNat 0)), (103, .int .i64 t2668), (104, .bool (!(decide (t2666 = t2668)))), (106, .bool (!(decide (t2666 = t2668))))] (by kernel_rfl) ?_
                refine EL.as' [(3, .int .i64 a9), (4, .int .u8 a10), (18, .int .i32 (l2301.getD x2426.toNat 0)), (88, .slice (some ⟨g2300, 0, none⟩) l2301.length 3), (89, .int .i64 (l2301.length : Int)), (90, .int .i64 x2426), (100, .int .i32 (l2301.getD x2426.toNat 0)), (101, .int .i64 t2666), (102, .int .i32 (l2301.getD x2426.toNat 0)), (103, .int .i64 t2668), (104, .bool (true)), (106, .bool (true))] (by simp only [dec_f h2670, Bool.not_true, Bool.not_false]) ?_
                refine EL.quick 21 [3, 4, 88, 89, 90, 100, 101, 102, 103, 104, 127] [(3, .int .i64 a9), (4, .int .u8 a10), (88, .slice (some ⟨g2300, 0, none⟩) l2301.length 3), (89, .int .i64 (l2301.length : Int)), (90, .int .i64 x2426), (100, .int .i32 (l2301.getD x2426.toNat 0)), (101, .int .i64 t2666), (102, .int .i32 (l2301.getD x2426.toNat 0)), (103, .int .i64 t2668), (104, .bool (true)), (127, .bool (true))] (by kernel_rfl) ?_
                refine EL.done (by kernel_rfl) ?_
                refine EQ.to ?_
                refine EQ.keep [3, 4, 88, 89, 90, 127] [(3, .int .i64 a9), (4, .int .u8 a10), (88, .slice (some ⟨g2300, 0, none⟩) l2301.length 3), (89, .int .i64 (l2301.length : Int)), (90, .int .i64 x2426), (127, .bool (true))] (by kernel_rfl) ?_
                exact fun a ha => ⟨true, ha, (hS.re [1, 1] [] rfl (sub_self)), H⟩
            · rw [if_neg h2665] at H
              refine EL.keep [3, 4, 18, 88, 89, 90, 99] [(3, .int .i64 a9), (4, .int .u8 a10), (18, .int .i32 (l2301.getD x2426.toNat 0)), (88, .slice (some ⟨g2300, 0, none⟩) l2301.length 3), (89, .int .i64 (l2301.length : Int)), (90, .int .i64 x2426), (99, .bool (!(decide (t2661 = t2663))))] (by kernel_rfl) ?_
              refine EL.as' [(3, .int .i64 a9), (4, .int .u8 a10), (18, .int .i32 (l2301.getD x2426.toNat 0)), (88, .slice (some ⟨g2300, 0, none⟩) l2301.length 3), (89, .int .i64 (l2301.length : Int)), (90, .int .i64 x2426), (99, .bool (true))] (by simp only [dec_f h2665, Bool.not_true, Bool.not_false]) ?_
              refine EL.quick 28 [3, 4, 88, 89, 90, 127] [(3, .int .i64 a9), (4, .int .u8 a10), (88, .slice (some ⟨g2300, 0, none⟩) l2301.length 3), (89, .int .i64 (l2301.length : Int)), (90, .int .i64 x2426), (127, .bool (true))] (by kernel_rfl) ?_
              refine EL.done (by kernel_rfl) ?_
              refine EQ.to ?_
              refine EQ.keep [3, 4, 88, 89, 90, 127] [(3, .int .i64 a9), (4, .int .u8 a10), (88, .slice (some ⟨g2300, 0, none⟩) l2301.length 3), (89, .int .i64 (l2301.length : Int)), (90, .int .i64 x2426), (127, .bool (true))] (by kernel_rfl) ?_
              exact fun a ha => ⟨true, ha, (hS.re [1, 1] [] rfl (sub_self)), H⟩
          · obtain ⟨x2659, ha, hS, H⟩ := hI
            rw [hj2660] at H
            (try dsimp only at H)
            refine EW.at ?_ a ha
            clear ha a
            refine EW.condP' (o := (.tmp 127)) (x := C7.r.r.r.l.r.l.l.r.r.l.l.r.r.l) (y := C7.r.r.r.l.r.l.l.r.r.l.l.r.r.r) (x2659) (by kernel_rfl) (by kernel_rfl) (fun h2680 => ?_) (fun h2680 => ?_)
            · rw [if_pos h2680] at H
              refine EW.seq (x := C7.r.r.r.l.r.l.l.r.r.l.l.r.r.l.l) (y := C7.r.r.r.l.r.l.l.r.r.l.l.r.r.l.r) (by kernel_rfl) ?_
              refine EW.region (id := 15) (ops := C7.r.r.r.l.r.l.l.r.r.l.l.r.r.l.l.ops) (by kernel_rfl) ?_
              refine EL.quick 1 [10] [(10, .bool (false))] (by kernel_rfl) ?_
              refine EL.done (by kernel_rfl) ?_
              refine EQ.code ?_
              refine EW.ret (by kernel_rfl) ?_
              refine EQ.ret ?_
              refine EQ.ret ?_
              refine EQ.ret ?_
              refine EQ.ret ?_
              refine EQ.ret ?_
              obtain rfl := Option.some.inj H
              exact EQ.leave (.bool (false)) (by kernel_rfl) ⟨_, rfl, rfl, (hS.re [] [0, 0] rfl (sub_self))⟩
            · rw [if_neg h2680] at H
              refine EW.skip (by kernel_rfl) ?_
              refine EQ.pop ?_
              refine EQ.code ?_
              refine EW.region (id := 16) (ops := C7.r.r.r.l.r.l.l.r.r.r.ops) (by kernel_rfl) ?_
              refine EL.quick 2 [3, 4, 88, 89, 90] [(3, .int .i64 a9), (4, .int .u8 a10), (88, .slice (some ⟨g2300, 0, none⟩) l2301.length 3), (89, .int .i64 (l2301.length : Int)), (90, .int .i64 (IntKind.i64.wrap (x2426 + 1)))] (by kernel_rfl) ?_
              refine EL.done (by kernel_rfl) ?_
              refine EQ.to ?_
              refine EQ.keep [3, 4, 88, 89, 90] [(3, .int .i64 a9), (4, .int .u8 a10), (88, .slice (some ⟨g2300, 0, none⟩) l2301.length 3), (89, .int .i64 (l2301.length : Int)), (90, .int .i64 (IntKind.i64.wrap (x2426 + 1)))] (by kernel_rfl) ?_
              exact fun a ha => ⟨n, Nat.lt_succ_self n, IntKind.i64.wrap (x2426 + 1), ha, (hS.re [1, 1] [] rfl (sub_self)), H⟩
        · rw [if_neg h2556] at H
          refine EW.exit (id := 2) (by kernel_rfl) ?_
          refine EQ.exitCode ?_
          refine EQ.exitTo ?_
          refine EQ.exitHere ?_
          refine EQ.code ?_
          refine EW.seq (x := C7.r.r.r.r.l) (y := C7.r.r.r.r.r) (by kernel_rfl) ?_
          refine EW.region (id := 17) (ops := C7.r.r.r.r.l.ops) (by kernel_rfl) ?_
          refine EL.quick 1 [10] [(10, .bool (true))] (by kernel_rfl) ?_
          refine EL.done (by kernel_rfl) ?_
          refine EQ.code ?_
          refine EW.ret (by kernel_rfl) ?_
          obtain rfl := Option.some.inj H
          exact EQ.leave (.bool (true)) (by kernel_rfl) ⟨_, rfl, rfl, (hS.re [] [0, 0] rfl (sub_self))⟩
  · rw [if_neg h1486] at H
    refine EW.seq (x := C7.r.l.r.l.l) (y := C7.r.l.r.l.r) (by kernel_rfl) ?_
    refine EW.region (id := 2) (ops := C7.r.l.r.l.l.ops) (by kernel_rfl) ?_
    refine EL.quick 1 [10] [(10, .bool (false))] (by kernel_rfl) ?_
    refine EL.done (by kernel_rfl) ?_
    refine EQ.code ?_
    refine EW.ret (by kernel_rfl) ?_
    refine EQ.ret ?_
    obtain rfl := Option.some.inj H
    exact EQ.leave (.bool (false)) (by kernel_rfl) ⟨_, rfl, rfl, (hS.re [] [] rfl (sub_self))⟩

def confidantlaw11_IdentTells.Pure : Prop := ∀ (a6 : Int) (a7 : Int) (a8 : Int) (a9 : Int) (a10 : Int), (Lit.int .i32 a6).wf = true → (Lit.int .i64 a7).wf = true → (Lit.int .i64 a8).wf = true → (Lit.int .i64 a9).wf = true → (Lit.int .u8 a10).wf = true → ∃ K, confidantlaw11_IdentTells.f K a6 a7 a8 a9 a10 = some true

noncomputable def C8 : Code := bodyOf Try.f8

/-! ### confidant/confidantlaw11.IdentOrders: function 8 -/
def confidantlaw11_IdentOrders.f (K : Nat) (a5 : Int) (a6 : Int) (a7 : Int) (a8 : Int) : Option Bool := b1 (confidantlaw11_known.f K) fun (t65 : Bool) => (if t65 = true then (b2 (ident_Of.f K (IntKind.i64.wrap (Int.tmod a5 16)) (IntKind.i64.wrap a7)) fun (t71 : Int) (t72 : Bool) => (b2 (ident_Of.f K (IntKind.i64.wrap (Int.tmod a6 16)) (IntKind.i64.wrap a8)) fun (t77 : Int) (t78 : Bool) => (lt (fun (x84 : Bool) => (if t72 = true then (if t78 = true then (if ((decide (t71 < t77)) == x84) = true then (if (Int.tmod a5 16) = (Int.tmod a6 16) then (if ((decide (t71 = t77)) == (decide (a7 = a8))) = true then (b1 (ident_Valid.f K t71 (IntKind.i64.wrap ((IntKind.i64.wrap (Int.tmod a5 16)) + 1))) fun (t93 : Bool) => (if t93 = true then (b1 (ident_Valid.f K t71 (IntKind.i64.wrap (Int.tmod a5 16))) fun (t96 : Bool) => (if t96 = true then (some false) else (some (decide (t71 ≥ 0))))) else (some false))) else (some false)) else (if ((decide (t71 = t77)) == false) = true then (b1 (ident_Valid.f K t71 (IntKind.i64.wrap ((IntKind.i64.wrap (Int.tmod a5 16)) + 1))) fun (t100 : Bool) => (if t100 = true then (b1 (ident_Valid.f K t71 (IntKind.i64.wrap (Int.tmod a5 16))) fun (t103 : Bool) => (if t103 = true then (some false) else (some (decide (t71 ≥ 0))))) else (some false))) else (some false))) else (some false)) else (some false)) else (some false))) fun j85 => (if (Int.tmod a5 16) < (Int.tmod a6 16) then (j85 true) else (if (Int.tmod a5 16) = (Int.tmod a6 16) then (j85 (decide (a7 < a8))) else (j85 false)))))) else (some false))
set_option maxRecDepth 100000 in
theorem confidantlaw11_IdentOrders.calls {K : Nat} {a5 : Int} {a6 : Int} {a7 : Int} {a8 : Int} {x57 : Bool} {B w : World} {os : List Ass} {rs : List Ro} (H : confidantlaw11_IdentOrders.f K a5 a6 a7 a8 = some x57) (hS : St B w (os) (rs)) :
    Calls Try.prog 8 [.int .u8 a5, .int .u8 a6, .int .u16 a7, .int .u16 a8].toArray w (fun en w' => ∃ v, en = .returned v ∧ v = .bool (x57) ∧ St B w' (os) (rs)) := by
  unfold confidantlaw11_IdentOrders.f at H
  refine calls_of_EW (args := [.int .u8 a5, .int .u8 a6, .int .u16 a7, .int .u16 a8]) (c := C8) 98 Try.func8 (by kernel_rfl) (by kernel_rfl) (by kernel_rfl) ?_
  refine EW.seq (x := C8.l) (y := C8.r) (by kernel_rfl) ?_
  refine EW.region (id := 0) (ops := C8.l.ops) (by kernel_rfl) ?_
  refine EL.quick 1 [0, 1, 2, 3] [(0, .int .u8 a5), (1, .int .u8 a6), (2, .int .u16 a7), (3, .int .u16 a8)] (by kernel_rfl) ?_
  refine EL.done (by kernel_rfl) ?_
  refine EQ.code ?_
  refine EW.seq (x := C8.r.l) (y := C8.r.r) (by kernel_rfl) ?_
  refine EW.seq (x := C8.r.l.l) (y := C8.r.l.r) (by kernel_rfl) ?_
  refine EW.region (id := 1) (ops := C8.r.l.l.ops) (by kernel_rfl) ?_
  obtain ⟨t65, hc66, H⟩ := b1_out H
  refine EL.of (EO.callD 20 [] _ 14 (by kernel_rfl) (by kernel_rfl) (by kernel_rfl) (confidantlaw11_known.calls hc66 hS) ?_)
  rintro v w ⟨rfl, hS⟩
  refine EL.quick 1 [0, 1, 2, 3, 15] [(0, .int .u8 a5), (1, .int .u8 a6), (2, .int .u16 a7), (3, .int .u16 a8), (15, .bool (!(t65)))] (by kernel_rfl) ?_
  refine EL.done (by kernel_rfl) ?_
  refine EQ.code ?_
  refine EW.condQ (b := !(t65)) (o := (.tmp 15)) (x := C8.r.l.r.l) (y := C8.r.l.r.r) (t65 = true) (false) (by kernel_rfl) (by kernel_rfl) (by constructor <;> intro h <;> simp [h]) (fun h67 => ?_) (fun h67 => ?_)
  · rw [if_pos h67] at H
    refine EW.skip (by kernel_rfl) ?_
    refine EQ.code ?_
    refine EW.seq (x := C8.r.r.l) (y := C8.r.r.r) (by kernel_rfl) ?_
    refine EW.region (id := 3) (ops := C8.r.r.l.ops) (by kernel_rfl) ?_
    refine EL.quick 5 [0, 1, 2, 3, 19, 21] [(0, .int .u8 a5), (1, .int .u8 a6), (2, .int .u16 a7), (3, .int .u16 a8), (19, .int .i64 (IntKind.i64.wrap (Int.tmod a5 16))), (21, .int .i64 (IntKind.i64.wrap a7))] (by kernel_rfl) ?_
    obtain ⟨t71, t72, hc73, H⟩ := b2_out H
    refine EL.of (EO.callD 21 [.int .i64 (IntKind.i64.wrap (Int.tmod a5 16)), .int .i64 (IntKind.i64.wrap a7)] _ 22 (by kernel_rfl) (by kernel_rfl) (by kernel_rfl) (ident_Of.calls hc73 hS) ?_)
    rintro v w ⟨rfl, hS⟩
    refine EL.quick 5 [0, 1, 2, 3, 9, 10] [(0, .int .u8 a5), (1, .int .u8 a6), (2, .int .u16 a7), (3, .int .u16 a8), (9, .int .i32 t71), (10, .bool (t72))] (by kernel_rfl) ?_
    refine EL.done (by kernel_rfl) ?_
    refine EQ.code ?_
    refine EW.seq (x := C8.r.r.r.l) (y := C8.r.r.r.r) (by kernel_rfl) ?_
    refine EW.region (id := 4) (ops := C8.r.r.r.l.ops) (by kernel_rfl) ?_
    refine EL.quick 5 [0, 1, 2, 3, 9, 10, 28, 30] [(0, .int .u8 a5), (1, .int .u8 a6), (2, .int .u16 a7), (3, .int .u16 a8), (9, .int .i32 t71), (10, .bool (t72)), (28, .int .i64 (IntKind.i64.wrap (Int.tmod a6 16))), (30, .int .i64 (IntKind.i64.wrap a8))] (by kernel_rfl) ?_
    obtain ⟨t77, t78, hc79, H⟩ := b2_out H
    refine EL.of (EO.callD 21 [.int .i64 (IntKind.i64.wrap (Int.tmod a6 16)), .int .i64 (IntKind.i64.wrap a8)] _ 31 (by kernel_rfl) (by kernel_rfl) (by kernel_rfl) (ident_Of.calls hc79 hS) ?_)
    rintro v w ⟨rfl, hS⟩
    refine EL.quick 5 [0, 1, 2, 3, 9, 10, 11, 12] [(0, .int .u8 a5), (1, .int .u8 a6), (2, .int .u16 a7), (3, .int .u16 a8), (9, .int .i32 t71), (10, .bool (t72)), (11, .int .i32 t77), (12, .bool (t78))] (by kernel_rfl) ?_
    refine EL.done (by kernel_rfl) ?_
    refine EQ.code ?_
    obtain ⟨j85, hj85, H⟩ := lt_out H
    refine EW.cut (x := C8.r.r.r.r.l) (y := C8.r.r.r.r.r) (fun a w => ∃ x84 : Bool, Sat 98 [(0, .int .u8 a5), (1, .int .u8 a6), (2, .int .u16 a7), (3, .int .u16 a8), (9, .int .i32 t71), (10, .bool (t72)), (11, .int .i32 t77), (12, .bool (t78)), (13, .bool (x84))] a ∧ St B w (os) (rs) ∧ j85 x84 = some x57) (by kernel_rfl) ?_ (fun a w hI => ?_)
    · refine EW.region (id := 5) (ops := C8.r.r.r.r.l.ops) (by kernel_rfl) ?_
      refine EL.quick 6 [0, 1, 2, 3, 9, 10, 11, 12, 39] [(0, .int .u8 a5), (1, .int .u8 a6), (2, .int .u16 a7), (3, .int .u16 a8), (9, .int .i32 t71), (10, .bool (t72)), (11, .int .i32 t77), (12, .bool (t78)), (39, .bool (decide ((Int.tmod a5 16) < (Int.tmod a6 16))))] (by kernel_rfl) ?_
      by_cases h86 : (Int.tmod a5 16) < (Int.tmod a6 16)
      · rw [if_pos h86] at H
        refine EL.keep [0, 1, 2, 3, 9, 10, 11, 12, 39] [(0, .int .u8 a5), (1, .int .u8 a6), (2, .int .u16 a7), (3, .int .u16 a8), (9, .int .i32 t71), (10, .bool (t72)), (11, .int .i32 t77), (12, .bool (t78)), (39, .bool (decide ((Int.tmod a5 16) < (Int.tmod a6 16))))] (by kernel_rfl) ?_
        refine EL.as' [(0, .int .u8 a5), (1, .int .u8 a6), (2, .int .u16 a7), (3, .int .u16 a8), (9, .int .i32 t71), (10, .bool (t72)), (11, .int .i32 t77), (12, .bool (t78)), (39, .bool (true))] (by simp only [dec_t h86, Bool.not_true, Bool.not_false]) ?_
        refine EL.quick 12 [0, 1, 2, 3, 9, 10, 11, 12, 13] [(0, .int .u8 a5), (1, .int .u8 a6), (2, .int .u16 a7), (3, .int .u16 a8), (9, .int .i32 t71), (10, .bool (t72)), (11, .int .i32 t77), (12, .bool (t78)), (13, .bool (true))] (by kernel_rfl) ?_
        refine EL.done (by kernel_rfl) ?_
        refine EQ.to ?_
        refine EQ.keep [0, 1, 2, 3, 9, 10, 11, 12, 13] [(0, .int .u8 a5), (1, .int .u8 a6), (2, .int .u16 a7), (3, .int .u16 a8), (9, .int .i32 t71), (10, .bool (t72)), (11, .int .i32 t77), (12, .bool (t78)), (13, .bool (true))] (by kernel_rfl) ?_
        exact fun a ha => ⟨true, ha, (hS.re [] [] rfl (sub_self)), H⟩
      · rw [if_neg h86] at H
        refine EL.keep [0, 1, 2, 3, 9, 10, 11, 12, 39] [(0, .int .u8 a5), (1, .int .u8 a6), (2, .int .u16 a7), (3, .int .u16 a8), (9, .int .i32 t71), (10, .bool (t72)), (11, .int .i32 t77), (12, .bool (t78)), (39, .bool (decide ((Int.tmod a5 16) < (Int.tmod a6 16))))] (by kernel_rfl) ?_
        refine EL.as' [(0, .int .u8 a5), (1, .int .u8 a6), (2, .int .u16 a7), (3, .int .u16 a8), (9, .int .i32 t71), (10, .bool (t72)), (11, .int .i32 t77), (12, .bool (t78)), (39, .bool (false))] (by simp only [dec_f h86, Bool.not_true, Bool.not_false]) ?_
        refine EL.quick 6 [0, 1, 2, 3, 9, 10, 11, 12, 39, 45] [(0, .int .u8 a5), (1, .int .u8 a6), (2, .int .u16 a7), (3, .int .u16 a8), (9, .int .i32 t71), (10, .bool (t72)), (11, .int .i32 t77), (12, .bool (t78)), (39, .bool (false)), (45, .bool (decide ((Int.tmod a5 16) = (Int.tmod a6 16))))] (by kernel_rfl) ?_
        by_cases h87 : (Int.tmod a5 16) = (Int.tmod a6 16)
        · rw [if_pos h87] at H
          refine EL.keep [0, 1, 2, 3, 9, 10, 11, 12, 39, 45] [(0, .int .u8 a5), (1, .int .u8 a6), (2, .int .u16 a7), (3, .int .u16 a8), (9, .int .i32 t71), (10, .bool (t72)), (11, .int .i32 t77), (12, .bool (t78)), (39, .bool (false)), (45, .bool (decide ((Int.tmod a5 16) = (Int.tmod a6 16))))] (by kernel_rfl) ?_
          refine EL.as' [(0, .int .u8 a5), (1, .int .u8 a6), (2, .int .u16 a7), (3, .int .u16 a8), (9, .int .i32 t71), (10, .bool (t72)), (11, .int .i32 t77), (12, .bool (t78)), (39, .bool (false)), (45, .bool (true))] (by simp only [dec_t h87, Bool.not_true, Bool.not_false]) ?_
          refine EL.quick 6 [0, 1, 2, 3, 9, 10, 11, 12, 13] [(0, .int .u8 a5), (1, .int .u8 a6), (2, .int .u16 a7), (3, .int .u16 a8), (9, .int .i32 t71), (10, .bool (t72)), (11, .int .i32 t77), (12, .bool (t78)), (13, .bool (decide (a7 < a8)))] (by kernel_rfl) ?_
          refine EL.done (by kernel_rfl) ?_
          refine EQ.to ?_
          refine EQ.keep [0, 1, 2, 3, 9, 10, 11, 12, 13] [(0, .int .u8 a5), (1, .int .u8 a6), (2, .int .u16 a7), (3, .int .u16 a8), (9, .int .i32 t71), (10, .bool (t72)), (11, .int .i32 t77), (12, .bool (t78)), (13, .bool (decide (a7 < a8)))] (by kernel_rfl) ?_
          exact fun a ha => ⟨decide (a7 < a8), ha, (hS.re [] [] rfl (sub_self)), H⟩
        · rw [if_neg h87] at H
          refine EL.keep [0, 1, 2, 3, 9, 10, 11, 12, 39, 45] [(0, .int .u8 a5), (1, .int .u8 a6), (2, .int .u16 a7), (3, .int .u16 a8), (9, .int .i32 t71), (10, .bool (t72)), (11, .int .i32 t77), (12, .bool (t78)), (39, .bool (false)), (45, .bool (decide ((Int.tmod a5 16) = (Int.tmod a6 16))))] (by kernel_rfl) ?_
          refine EL.as' [(0, .int .u8 a5), (1, .int .u8 a6), (2, .int .u16 a7), (3, .int .u16 a8), (9, .int .i32 t71), (10, .bool (t72)), (11, .int .i32 t77), (12, .bool (t78)), (39, .bool (false)), (45, .bool (false))] (by simp only [dec_f h87, Bool.not_true, Bool.not_false]) ?_
          refine EL.quick 6 [0, 1, 2, 3, 9, 10, 11, 12, 13] [(0, .int .u8 a5), (1, .int .u8 a6), (2, .int .u16 a7), (3, .int .u16 a8), (9, .int .i32 t71), (10, .bool (t72)), (11, .int .i32 t77), (12, .bool (t78)), (13, .bool (false))] (by kernel_rfl) ?_
          refine EL.done (by kernel_rfl) ?_
          refine EQ.to ?_
          refine EQ.keep [0, 1, 2, 3, 9, 10, 11, 12, 13] [(0, .int .u8 a5), (1, .int .u8 a6), (2, .int .u16 a7), (3, .int .u16 a8), (9, .int .i32 t71), (10, .bool (t72)), (11, .int .i32 t77), (12, .bool (t78)), (13, .bool (false))] (by kernel_rfl) ?_
          exact fun a ha => ⟨false, ha, (hS.re [] [] rfl (sub_self)), H⟩
    · obtain ⟨x84, ha, hS, H⟩ := hI
      rw [hj85] at H
      (try dsimp only at H)
      refine EW.at ?_ a ha
      clear ha a
      refine EW.seq (x := C8.r.r.r.r.r.l) (y := C8.r.r.r.r.r.r) (by kernel_rfl) ?_
      refine EW.region (id := 6) (ops := C8.r.r.r.r.r.l.ops) (by kernel_rfl) ?_
      refine EL.quick 2 [0, 1, 2, 3, 9, 11, 12, 13, 52] [(0, .int .u8 a5), (1, .int .u8 a6), (2, .int .u16 a7), (3, .int .u16 a8), (9, .int .i32 t71), (11, .int .i32 t77), (12, .bool (t78)), (13, .bool (x84)), (52, .bool (t72))] (by kernel_rfl) ?_
      by_cases h88 : t72 = true
      · rw [if_pos h88] at H
        refine EL.keep [0, 1, 2, 3, 9, 11, 12, 13, 52] [(0, .int .u8 a5), (1, .int .u8 a6), (2, .int .u16 a7), (3, .int .u16 a8), (9, .int .i32 t71), (11, .int .i32 t77), (12, .bool (t78)), (13, .bool (x84)), (52, .bool (t72))] (by kernel_rfl) ?_
        refine EL.as' [(0, .int .u8 a5), (1, .int .u8 a6), (2, .int .u16 a7), (3, .int .u16 a8), (9, .int .i32 t71), (11, .int .i32 t77), (12, .bool (t78)), (13, .bool (x84)), (52, .bool (true))] (by simp only [h88, Bool.not_true, Bool.not_false]) ?_
        refine EL.quick 3 [0, 1, 2, 3, 9, 11, 13, 55] [(0, .int .u8 a5), (1, .int .u8 a6), (2, .int .u16 a7), (3, .int .u16 a8), (9, .int .i32 t71), (11, .int .i32 t77), (13, .bool (x84)), (55, .bool (t78))] (by kernel_rfl) ?_
        by_cases h89 : t78 = true
        · rw [if_pos h89] at H
          refine EL.keep [0, 1, 2, 3, 9, 11, 13, 55] [(0, .int .u8 a5), (1, .int .u8 a6), (2, .int .u16 a7), (3, .int .u16 a8), (9, .int .i32 t71), (11, .int .i32 t77), (13, .bool (x84)), (55, .bool (t78))] (by kernel_rfl) ?_
          refine EL.as' [(0, .int .u8 a5), (1, .int .u8 a6), (2, .int .u16 a7), (3, .int .u16 a8), (9, .int .i32 t71), (11, .int .i32 t77), (13, .bool (x84)), (55, .bool (true))] (by simp only [h89, Bool.not_true, Bool.not_false]) ?_
          refine EL.quick 7 [0, 1, 2, 3, 9, 11, 62] [(0, .int .u8 a5), (1, .int .u8 a6), (2, .int .u16 a7), (3, .int .u16 a8), (9, .int .i32 t71), (11, .int .i32 t77), (62, .bool (((decide (t71 < t77)) == x84)))] (by kernel_rfl) ?_
          by_cases h90 : ((decide (t71 < t77)) == x84) = true
          · rw [if_pos h90] at H
            refine EL.keep [0, 1, 2, 3, 9, 11, 62] [(0, .int .u8 a5), (1, .int .u8 a6), (2, .int .u16 a7), (3, .int .u16 a8), (9, .int .i32 t71), (11, .int .i32 t77), (62, .bool (((decide (t71 < t77)) == x84)))] (by kernel_rfl) ?_
            refine EL.as' [(0, .int .u8 a5), (1, .int .u8 a6), (2, .int .u16 a7), (3, .int .u16 a8), (9, .int .i32 t71), (11, .int .i32 t77), (62, .bool (true))] (by simp only [h90, Bool.not_true, Bool.not_false]) ?_
            refine EL.quick 9 [0, 2, 3, 9, 62, 65, 71] [(0, .int .u8 a5), (2, .int .u16 a7), (3, .int .u16 a8), (9, .int .i32 t71), (62, .bool (true)), (65, .bool (decide (t71 = t77))), (71, .bool (decide ((Int.tmod a5 16) = (Int.tmod a6 16))))] (by kernel_rfl) ?_
            by_cases h91 : (Int.tmod a5 16) = (Int.tmod a6 16)
            · rw [if_pos h91] at H
              refine EL.keep [0, 2, 3, 9, 62, 65, 71] [(0, .int .u8 a5), (2, .int .u16 a7), (3, .int .u16 a8), (9, .int .i32 t71), (62, .bool (true)), (65, .bool (decide (t71 = t77))), (71, .bool (decide ((Int.tmod a5 16) = (Int.tmod a6 16))))] (by kernel_rfl) ?_
              refine EL.as' [(0, .int .u8 a5), (2, .int .u16 a7), (3, .int .u16 a8), (9, .int .i32 t71), (62, .bool (true)), (65, .bool (decide (t71 = t77))), (71, .bool (true))] (by simp only [dec_t h91, Bool.not_true, Bool.not_false]) ?_
              refine EL.quick 7 [0, 9, 78] [(0, .int .u8 a5), (9, .int .i32 t71), (78, .bool (((decide (t71 = t77)) == (decide (a7 = a8)))))] (by kernel_rfl) ?_
              by_cases h92 : ((decide (t71 = t77)) == (decide (a7 = a8))) = true
              · rw [if_pos h92] at H
                refine EL.keep [0, 9, 78] [(0, .int .u8 a5), (9, .int .i32 t71), (78, .bool (((decide (t71 = t77)) == (decide (a7 = a8)))))] (by kernel_rfl) ?_
                refine EL.as' [(0, .int .u8 a5), (9, .int .i32 t71), (78, .bool (true))] (by simp only [h92, Bool.not_true, Bool.not_false]) ?_
                refine EL.quick 5 [0, 9, 78, 79, 83] [(0, .int .u8 a5), (9, .int .i32 t71), (78, .bool (true)), (79, .int .i32 t71), (83, .int .i64 (IntKind.i64.wrap ((IntKind.i64.wrap (Int.tmod a5 16)) + 1)))] (by kernel_rfl) ?_
                obtain ⟨t93, hc94, H⟩ := b1_out H
                refine EL.of (EO.callD 27 [.int .i32 t71, .int .i64 (IntKind.i64.wrap ((IntKind.i64.wrap (Int.tmod a5 16)) + 1))] _ 84 (by kernel_rfl) (by kernel_rfl) (by kernel_rfl) (ident_Valid.calls hc94 hS) ?_)
                rintro v w ⟨rfl, hS⟩
                refine EL.quick 2 [0, 9, 86] [(0, .int .u8 a5), (9, .int .i32 t71), (86, .bool (t93))] (by kernel_rfl) ?_
                by_cases h95 : t93 = true
                · rw [if_pos h95] at H
                  refine EL.keep [0, 9, 86] [(0, .int .u8 a5), (9, .int .i32 t71), (86, .bool (t93))] (by kernel_rfl) ?_
                  refine EL.as' [(0, .int .u8 a5), (9, .int .i32 t71), (86, .bool (true))] (by simp only [h95, Bool.not_true, Bool.not_false]) ?_
                  refine EL.quick 4 [9, 86, 87, 90] [(9, .int .i32 t71), (86, .bool (true)), (87, .int .i32 t71), (90, .int .i64 (IntKind.i64.wrap (Int.tmod a5 16)))] (by kernel_rfl) ?_
                  obtain ⟨t96, hc97, H⟩ := b1_out H
                  refine EL.of (EO.callD 27 [.int .i32 t71, .int .i64 (IntKind.i64.wrap (Int.tmod a5 16))] _ 91 (by kernel_rfl) (by kernel_rfl) (by kernel_rfl) (ident_Valid.calls hc97 hS) ?_)
                  rintro v w ⟨rfl, hS⟩
                  refine EL.quick 3 [9, 94] [(9, .int .i32 t71), (94, .bool (!(t96)))] (by kernel_rfl) ?_
                  by_cases h98 : t96 = true
                  · rw [if_pos h98] at H
                    refine EL.keep [9, 94] [(9, .int .i32 t71), (94, .bool (!(t96)))] (by kernel_rfl) ?_
                    refine EL.as' [(9, .int .i32 t71), (94, .bool (false))] (by simp only [h98, Bool.not_true, Bool.not_false]) ?_
                    refine EL.quick 4 [8] [(8, .bool (false))] (by kernel_rfl) ?_
                    refine EL.done (by kernel_rfl) ?_
                    refine EQ.code ?_
                    refine EW.ret (by kernel_rfl) ?_
                    obtain rfl := Option.some.inj H
                    exact EQ.leave (.bool (false)) (by kernel_rfl) ⟨_, rfl, rfl, (hS.re [] [] rfl (sub_self))⟩
                  · rw [if_neg h98] at H
                    refine EL.keep [9, 94] [(9, .int .i32 t71), (94, .bool (!(t96)))] (by kernel_rfl) ?_
                    refine EL.as' [(9, .int .i32 t71), (94, .bool (true))] (by simp only [(Bool.eq_false_iff.2 h98), Bool.not_true, Bool.not_false]) ?_
                    refine EL.quick 4 [8] [(8, .bool (decide (t71 ≥ 0)))] (by kernel_rfl) ?_
                    refine EL.done (by kernel_rfl) ?_
                    refine EQ.code ?_
                    refine EW.ret (by kernel_rfl) ?_
                    obtain rfl := Option.some.inj H
                    exact EQ.leave (.bool (decide (t71 ≥ 0))) (by kernel_rfl) ⟨_, rfl, rfl, (hS.re [] [] rfl (sub_self))⟩
                · rw [if_neg h95] at H
                  refine EL.keep [0, 9, 86] [(0, .int .u8 a5), (9, .int .i32 t71), (86, .bool (t93))] (by kernel_rfl) ?_
                  refine EL.as' [(0, .int .u8 a5), (9, .int .i32 t71), (86, .bool (false))] (by simp only [(Bool.eq_false_iff.2 h95), Bool.not_true, Bool.not_false]) ?_
                  refine EL.quick 12 [8] [(8, .bool (false))] (by kernel_rfl) ?_
                  refine EL.done (by kernel_rfl) ?_
                  refine EQ.code ?_
                  refine EW.ret (by kernel_rfl) ?_
                  obtain rfl := Option.some.inj H
                  exact EQ.leave (.bool (false)) (by kernel_rfl) ⟨_, rfl, rfl, (hS.re [] [] rfl (sub_self))⟩
              · rw [if_neg h92] at H
                refine EL.keep [0, 9, 78] [(0, .int .u8 a5), (9, .int .i32 t71), (78, .bool (((decide (t71 = t77)) == (decide (a7 = a8)))))] (by kernel_rfl) ?_
                refine EL.as' [(0, .int .u8 a5), (9, .int .i32 t71), (78, .bool (false))] (by simp only [(Bool.eq_false_iff.2 h92), Bool.not_true, Bool.not_false]) ?_
                refine EL.quick 20 [8] [(8, .bool (false))] (by kernel_rfl) ?_
                refine EL.done (by kernel_rfl) ?_
                refine EQ.code ?_
                refine EW.ret (by kernel_rfl) ?_
                obtain rfl := Option.some.inj H
                exact EQ.leave (.bool (false)) (by kernel_rfl) ⟨_, rfl, rfl, (hS.re [] [] rfl (sub_self))⟩
            · rw [if_neg h91] at H
              refine EL.keep [0, 2, 3, 9, 62, 65, 71] [(0, .int .u8 a5), (2, .int .u16 a7), (3, .int .u16 a8), (9, .int .i32 t71), (62, .bool (true)), (65, .bool (decide (t71 = t77))), (71, .bool (decide ((Int.tmod a5 16) = (Int.tmod a6 16))))] (by kernel_rfl) ?_
              refine EL.as' [(0, .int .u8 a5), (2, .int .u16 a7), (3, .int .u16 a8), (9, .int .i32 t71), (62, .bool (true)), (65, .bool (decide (t71 = t77))), (71, .bool (false))] (by simp only [dec_f h91, Bool.not_true, Bool.not_false]) ?_
              refine EL.quick 7 [0, 9, 78] [(0, .int .u8 a5), (9, .int .i32 t71), (78, .bool (((decide (t71 = t77)) == false)))] (by kernel_rfl) ?_
              by_cases h99 : ((decide (t71 = t77)) == false) = true
              · rw [if_pos h99] at H
                refine EL.keep [0, 9, 78] [(0, .int .u8 a5), (9, .int .i32 t71), (78, .bool (((decide (t71 = t77)) == false)))] (by kernel_rfl) ?_
                refine EL.as' [(0, .int .u8 a5), (9, .int .i32 t71), (78, .bool (true))] (by simp only [h99, Bool.not_true, Bool.not_false]) ?_
                refine EL.quick 5 [0, 9, 78, 79, 83] [(0, .int .u8 a5), (9, .int .i32 t71), (78, .bool (true)), (79, .int .i32 t71), (83, .int .i64 (IntKind.i64.wrap ((IntKind.i64.wrap (Int.tmod a5 16)) + 1)))] (by kernel_rfl) ?_
                obtain ⟨t100, hc101, H⟩ := b1_out H
                refine EL.of (EO.callD 27 [.int .i32 t71, .int .i64 (IntKind.i64.wrap ((IntKind.i64.wrap (Int.tmod a5 16)) + 1))] _ 84 (by kernel_rfl) (by kernel_rfl) (by kernel_rfl) (ident_Valid.calls hc101 hS) ?_)
                rintro v w ⟨rfl, hS⟩
                refine EL.quick 2 [0, 9, 86] [(0, .int .u8 a5), (9, .int .i32 t71), (86, .bool (t100))] (by kernel_rfl) ?_
                by_cases h102 : t100 = true
                · rw [if_pos h102] at H
                  refine EL.keep [0, 9, 86] [(0, .int .u8 a5), (9, .int .i32 t71), (86, .bool (t100))] (by kernel_rfl) ?_
                  refine EL.as' [(0, .int .u8 a5), (9, .int .i32 t71), (86, .bool (true))] (by simp only [h102, Bool.not_true, Bool.not_false]) ?_
                  refine EL.quick 4 [9, 86, 87, 90] [(9, .int .i32 t71), (86, .bool (true)), (87, .int .i32 t71), (90, .int .i64 (IntKind.i64.wrap (Int.tmod a5 16)))] (by kernel_rfl) ?_
                  obtain ⟨t103, hc104, H⟩ := b1_out H
                  refine EL.of (EO.callD 27 [.int .i32 t71, .int .i64 (IntKind.i64.wrap (Int.tmod a5 16))] _ 91 (by kernel_rfl) (by kernel_rfl) (by kernel_rfl) (ident_Valid.calls hc104 hS) ?_)
                  rintro v w ⟨rfl, hS⟩
                  refine EL.quick 3 [9, 94] [(9, .int .i32 t71), (94, .bool (!(t103)))] (by kernel_rfl) ?_
                  by_cases h105 : t103 = true
                  · rw [if_pos h105] at H
                    refine EL.keep [9, 94] [(9, .int .i32 t71), (94, .bool (!(t103)))] (by kernel_rfl) ?_
                    refine EL.as' [(9, .int .i32 t71), (94, .bool (false))] (by simp only [h105, Bool.not_true, Bool.not_false]) ?_
                    refine EL.quick 4 [8] [(8, .bool (false))] (by kernel_rfl) ?_
                    refine EL.done (by kernel_rfl) ?_
                    refine EQ.code ?_
                    refine EW.ret (by kernel_rfl) ?_
                    obtain rfl := Option.some.inj H
                    exact EQ.leave (.bool (false)) (by kernel_rfl) ⟨_, rfl, rfl, (hS.re [] [] rfl (sub_self))⟩
                  · rw [if_neg h105] at H
                    refine EL.keep [9, 94] [(9, .int .i32 t71), (94, .bool (!(t103)))] (by kernel_rfl) ?_
                    refine EL.as' [(9, .int .i32 t71), (94, .bool (true))] (by simp only [(Bool.eq_false_iff.2 h105), Bool.not_true, Bool.not_false]) ?_
                    refine EL.quick 4 [8] [(8, .bool (decide (t71 ≥ 0)))] (by kernel_rfl) ?_
                    refine EL.done (by kernel_rfl) ?_
                    refine EQ.code ?_
                    refine EW.ret (by kernel_rfl) ?_
                    obtain rfl := Option.some.inj H
                    exact EQ.leave (.bool (decide (t71 ≥ 0))) (by kernel_rfl) ⟨_, rfl, rfl, (hS.re [] [] rfl (sub_self))⟩
                · rw [if_neg h102] at H
                  refine EL.keep [0, 9, 86] [(0, .int .u8 a5), (9, .int .i32 t71), (86, .bool (t100))] (by kernel_rfl) ?_
                  refine EL.as' [(0, .int .u8 a5), (9, .int .i32 t71), (86, .bool (false))] (by simp only [(Bool.eq_false_iff.2 h102), Bool.not_true, Bool.not_false]) ?_
                  refine EL.quick 12 [8] [(8, .bool (false))] (by kernel_rfl) ?_
                  refine EL.done (by kernel_rfl) ?_
                  refine EQ.code ?_
                  refine EW.ret (by kernel_rfl) ?_
                  obtain rfl := Option.some.inj H
                  exact EQ.leave (.bool (false)) (by kernel_rfl) ⟨_, rfl, rfl, (hS.re [] [] rfl (sub_self))⟩
              · rw [if_neg h99] at H
                refine EL.keep [0, 9, 78] [(0, .int .u8 a5), (9, .int .i32 t71), (78, .bool (((decide (t71 = t77)) == false)))] (by kernel_rfl) ?_
                refine EL.as' [(0, .int .u8 a5), (9, .int .i32 t71), (78, .bool (false))] (by simp only [(Bool.eq_false_iff.2 h99), Bool.not_true, Bool.not_false]) ?_
                refine EL.quick 20 [8] [(8, .bool (false))] (by kernel_rfl) ?_
                refine EL.done (by kernel_rfl) ?_
                refine EQ.code ?_
                refine EW.ret (by kernel_rfl) ?_
                obtain rfl := Option.some.inj H
                exact EQ.leave (.bool (false)) (by kernel_rfl) ⟨_, rfl, rfl, (hS.re [] [] rfl (sub_self))⟩
          · rw [if_neg h90] at H
            refine EL.keep [0, 1, 2, 3, 9, 11, 62] [(0, .int .u8 a5), (1, .int .u8 a6), (2, .int .u16 a7), (3, .int .u16 a8), (9, .int .i32 t71), (11, .int .i32 t77), (62, .bool (((decide (t71 < t77)) == x84)))] (by kernel_rfl) ?_
            refine EL.as' [(0, .int .u8 a5), (1, .int .u8 a6), (2, .int .u16 a7), (3, .int .u16 a8), (9, .int .i32 t71), (11, .int .i32 t77), (62, .bool (false))] (by simp only [(Bool.eq_false_iff.2 h90), Bool.not_true, Bool.not_false]) ?_
            refine EL.quick 36 [8] [(8, .bool (false))] (by kernel_rfl) ?_
            refine EL.done (by kernel_rfl) ?_
            refine EQ.code ?_
            refine EW.ret (by kernel_rfl) ?_
            obtain rfl := Option.some.inj H
            exact EQ.leave (.bool (false)) (by kernel_rfl) ⟨_, rfl, rfl, (hS.re [] [] rfl (sub_self))⟩
        · rw [if_neg h89] at H
          refine EL.keep [0, 1, 2, 3, 9, 11, 13, 55] [(0, .int .u8 a5), (1, .int .u8 a6), (2, .int .u16 a7), (3, .int .u16 a8), (9, .int .i32 t71), (11, .int .i32 t77), (13, .bool (x84)), (55, .bool (t78))] (by kernel_rfl) ?_
          refine EL.as' [(0, .int .u8 a5), (1, .int .u8 a6), (2, .int .u16 a7), (3, .int .u16 a8), (9, .int .i32 t71), (11, .int .i32 t77), (13, .bool (x84)), (55, .bool (false))] (by simp only [(Bool.eq_false_iff.2 h89), Bool.not_true, Bool.not_false]) ?_
          refine EL.quick 43 [8] [(8, .bool (false))] (by kernel_rfl) ?_
          refine EL.done (by kernel_rfl) ?_
          refine EQ.code ?_
          refine EW.ret (by kernel_rfl) ?_
          obtain rfl := Option.some.inj H
          exact EQ.leave (.bool (false)) (by kernel_rfl) ⟨_, rfl, rfl, (hS.re [] [] rfl (sub_self))⟩
      · rw [if_neg h88] at H
        refine EL.keep [0, 1, 2, 3, 9, 11, 12, 13, 52] [(0, .int .u8 a5), (1, .int .u8 a6), (2, .int .u16 a7), (3, .int .u16 a8), (9, .int .i32 t71), (11, .int .i32 t77), (12, .bool (t78)), (13, .bool (x84)), (52, .bool (t72))] (by kernel_rfl) ?_
        refine EL.as' [(0, .int .u8 a5), (1, .int .u8 a6), (2, .int .u16 a7), (3, .int .u16 a8), (9, .int .i32 t71), (11, .int .i32 t77), (12, .bool (t78)), (13, .bool (x84)), (52, .bool (false))] (by simp only [(Bool.eq_false_iff.2 h88), Bool.not_true, Bool.not_false]) ?_
        refine EL.quick 46 [8] [(8, .bool (false))] (by kernel_rfl) ?_
        refine EL.done (by kernel_rfl) ?_
        refine EQ.code ?_
        refine EW.ret (by kernel_rfl) ?_
        obtain rfl := Option.some.inj H
        exact EQ.leave (.bool (false)) (by kernel_rfl) ⟨_, rfl, rfl, (hS.re [] [] rfl (sub_self))⟩
  · rw [if_neg h67] at H
    refine EW.seq (x := C8.r.l.r.l.l) (y := C8.r.l.r.l.r) (by kernel_rfl) ?_
    refine EW.region (id := 2) (ops := C8.r.l.r.l.l.ops) (by kernel_rfl) ?_
    refine EL.quick 1 [8] [(8, .bool (false))] (by kernel_rfl) ?_
    refine EL.done (by kernel_rfl) ?_
    refine EQ.code ?_
    refine EW.ret (by kernel_rfl) ?_
    refine EQ.ret ?_
    obtain rfl := Option.some.inj H
    exact EQ.leave (.bool (false)) (by kernel_rfl) ⟨_, rfl, rfl, (hS.re [] [] rfl (sub_self))⟩

def confidantlaw11_IdentOrders.Pure : Prop := ∀ (a5 : Int) (a6 : Int) (a7 : Int) (a8 : Int), (Lit.int .u8 a5).wf = true → (Lit.int .u8 a6).wf = true → (Lit.int .u16 a7).wf = true → (Lit.int .u16 a8).wf = true → ∃ K, confidantlaw11_IdentOrders.f K a5 a6 a7 a8 = some true

noncomputable def C9 : Code := bodyOf Try.f9

noncomputable def C29 : Code := bodyOf Try.f29

noncomputable def C30 : Code := bodyOf Try.f30

noncomputable def C31 : Code := bodyOf Try.f31

noncomputable def C32 : Code := bodyOf Try.f32

noncomputable def C33 : Code := bodyOf Try.f33

noncomputable def C34 : Code := bodyOf Try.f34

noncomputable def C35 : Code := bodyOf Try.f35

noncomputable def C36 : Code := bodyOf Try.f36

noncomputable def C37 : Code := bodyOf Try.f37

noncomputable def C46 : Code := bodyOf Try.f46

noncomputable def C47 : Code := bodyOf Try.f47

noncomputable def C48 : Code := bodyOf Try.f48

noncomputable def C49 : Code := bodyOf Try.f49

noncomputable def C50 : Code := bodyOf Try.f50

noncomputable def C51 : Code := bodyOf Try.f51

noncomputable def C53 : Code := bodyOf Try.f53

/-! ### confidant/word.Div: function 30 -/
def word_Div.f (K : Nat) (a9 : Int) (a10 : Int) : Option (Int × Bool) := if a10 = 0 then (some (0, false)) else (some (IntKind.i32.wrap (Int.tdiv a9 a10), true))
set_option maxRecDepth 100000 in
theorem word_Div.calls {K : Nat} {a9 : Int} {a10 : Int} {x14 : Int} {x15 : Bool} {B w : World} {os : List Ass} {rs : List Ro} (H : word_Div.f K a9 a10 = some (x14, x15)) (hS : St B w (os) (rs)) :
    Calls Try.prog 30 [.int .i32 a9, .int .i32 a10].toArray w (fun en w' => ∃ v, en = .returned v ∧ v = .tuple #[.int .i32 x14, .bool (x15)] ∧ St B w' (os) (rs)) := by
  unfold word_Div.f at H
  refine calls_of_EW (args := [.int .i32 a9, .int .i32 a10]) (c := C30) 11 Try.func30 (by kernel_rfl) (by kernel_rfl) (by kernel_rfl) ?_
  refine EW.seq (x := C30.l) (y := C30.r) (by kernel_rfl) ?_
  refine EW.region (id := 0) (ops := C30.l.ops) (by kernel_rfl) ?_
  refine EL.quick 2 [0, 1] [(0, .int .i32 a9), (1, .int .i32 a10)] (by kernel_rfl) ?_
  refine EL.done (by kernel_rfl) ?_
  refine EQ.code ?_
  refine EW.seq (x := C30.r.l) (y := C30.r.r) (by kernel_rfl) ?_
  refine EW.seq (x := C30.r.l.l) (y := C30.r.l.r) (by kernel_rfl) ?_
  refine EW.region (id := 1) (ops := C30.r.l.l.ops) (by kernel_rfl) ?_
  refine EL.quick 2 [0, 1, 7] [(0, .int .i32 a9), (1, .int .i32 a10), (7, .bool (decide (a10 = 0)))] (by kernel_rfl) ?_
  refine EL.done (by kernel_rfl) ?_
  refine EQ.code ?_
  refine EW.condP (o := (.tmp 7)) (x := C30.r.l.r.l) (y := C30.r.l.r.r) (a10 = 0) (by kernel_rfl) (by kernel_rfl) (fun h17 => ?_) (fun h17 => ?_)
  · rw [if_pos h17] at H
    refine EW.seq (x := C30.r.l.r.l.l) (y := C30.r.l.r.l.r) (by kernel_rfl) ?_
    refine EW.region (id := 2) (ops := C30.r.l.r.l.l.ops) (by kernel_rfl) ?_
    refine EL.quick 2 [4, 5] [(4, .int .i32 0), (5, .bool (false))] (by kernel_rfl) ?_
    refine EL.done (by kernel_rfl) ?_
    refine EQ.code ?_
    refine EW.ret (by kernel_rfl) ?_
    refine EQ.ret ?_
    simp only [Option.some.injEq, Prod.mk.injEq] at H
    obtain ⟨rfl, rfl⟩ := H
    exact EQ.leave (.tuple #[.int .i32 0, .bool (false)]) (by kernel_rfl) ⟨_, rfl, rfl, (hS.re [] [] rfl (sub_self))⟩
  · rw [if_neg h17] at H
    refine EW.skip (by kernel_rfl) ?_
    refine EQ.code ?_
    refine EW.seq (x := C30.r.r.l) (y := C30.r.r.r) (by kernel_rfl) ?_
    refine EW.region (id := 3) (ops := C30.r.r.l.ops) (by kernel_rfl) ?_
    refine EL.quick 2 [8, 9] [(8, .int .i32 a9), (9, .int .i32 a10)] (by kernel_rfl) ?_
    refine EL.of (EO.Y (YO.div .quo .i32 a9 a10 (IntKind.i32.wrap (Int.tdiv a9 a10)) 10 (by kernel_rfl) (by kernel_rfl) (by kernel_rfl) h17 (by first | exact .inl ⟨rfl, rfl⟩ | exact .inr ⟨rfl, rfl⟩)) ?_)
    refine EL.quick 2 [4, 5] [(4, .int .i32 (IntKind.i32.wrap (Int.tdiv a9 a10))), (5, .bool (true))] (by kernel_rfl) ?_
    refine EL.done (by kernel_rfl) ?_
    refine EQ.code ?_
    refine EW.ret (by kernel_rfl) ?_
    simp only [Option.some.injEq, Prod.mk.injEq] at H
    obtain ⟨rfl, rfl⟩ := H
    exact EQ.leave (.tuple #[.int .i32 (IntKind.i32.wrap (Int.tdiv a9 a10)), .bool (true)]) (by kernel_rfl) ⟨_, rfl, rfl, (hS.re [] [] rfl (sub_self))⟩

/-! ### (confidant/word.num).add: function 47 -/
def word_num_add.f (K : Nat) (a39 : Int) (a40 : Int) : Option Int := some (IntKind.i32.wrap (a39 + a40))
set_option maxRecDepth 100000 in
theorem word_num_add.calls {K : Nat} {a39 : Int} {a40 : Int} {x41 : Int} {B w : World} {os : List Ass} {rs : List Ro} (H : word_num_add.f K a39 a40 = some x41) (hS : St B w (os) (rs)) :
    Calls Try.prog 47 [.int .i32 a39, .int .i32 a40].toArray w (fun en w' => ∃ v, en = .returned v ∧ v = .int .i32 x41 ∧ St B w' (os) (rs)) := by
  unfold word_num_add.f at H
  refine calls_of_EW (args := [.int .i32 a39, .int .i32 a40]) (c := C47) 8 Try.func47 (by kernel_rfl) (by kernel_rfl) (by kernel_rfl) ?_
  refine EW.seq (x := C47.l) (y := C47.r) (by kernel_rfl) ?_
  refine EW.region (id := 0) (ops := C47.l.ops) (by kernel_rfl) ?_
  refine EL.quick 1 [0, 1] [(0, .int .i32 a39), (1, .int .i32 a40)] (by kernel_rfl) ?_
  refine EL.done (by kernel_rfl) ?_
  refine EQ.code ?_
  refine EW.seq (x := C47.r.l) (y := C47.r.r) (by kernel_rfl) ?_
  refine EW.region (id := 1) (ops := C47.r.l.ops) (by kernel_rfl) ?_
  refine EL.quick 4 [4] [(4, .int .i32 (IntKind.i32.wrap (a39 + a40)))] (by kernel_rfl) ?_
  refine EL.done (by kernel_rfl) ?_
  refine EQ.code ?_
  refine EW.ret (by kernel_rfl) ?_
  obtain rfl := Option.some.inj H
  exact EQ.leave (.int .i32 (IntKind.i32.wrap (a39 + a40))) (by kernel_rfl) ⟨_, rfl, rfl, (hS.re [] [] rfl (sub_self))⟩

/-! ### confidant/word.Add: function 32 -/
def word_Add.f (K : Nat) (a37 : Int) (a38 : Int) : Option Int := b1 (word_num_add.f K a37 a38) fun (t49 : Int) => (some t49)
set_option maxRecDepth 100000 in
theorem word_Add.calls {K : Nat} {a37 : Int} {a38 : Int} {x46 : Int} {B w : World} {os : List Ass} {rs : List Ro} (H : word_Add.f K a37 a38 = some x46) (hS : St B w (os) (rs)) :
    Calls Try.prog 32 [.int .i32 a37, .int .i32 a38].toArray w (fun en w' => ∃ v, en = .returned v ∧ v = .int .i32 x46 ∧ St B w' (os) (rs)) := by
  unfold word_Add.f at H
  refine calls_of_EW (args := [.int .i32 a37, .int .i32 a38]) (c := C32) 8 Try.func32 (by kernel_rfl) (by kernel_rfl) (by kernel_rfl) ?_
  refine EW.seq (x := C32.l) (y := C32.r) (by kernel_rfl) ?_
  refine EW.region (id := 0) (ops := C32.l.ops) (by kernel_rfl) ?_
  refine EL.quick 1 [0, 1] [(0, .int .i32 a37), (1, .int .i32 a38)] (by kernel_rfl) ?_
  refine EL.done (by kernel_rfl) ?_
  refine EQ.code ?_
  refine EW.seq (x := C32.r.l) (y := C32.r.r) (by kernel_rfl) ?_
  refine EW.region (id := 1) (ops := C32.r.l.ops) (by kernel_rfl) ?_
  refine EL.quick 2 [5, 6] [(5, .int .i32 a37), (6, .int .i32 a38)] (by kernel_rfl) ?_
  refine EL.inline 46 [.func (.func 47) #[] #[], .int .i32 a37, .int .i32 a38] 7 (by kernel_rfl) (by kernel_rfl) (by kernel_rfl) ?_
  refine calls_of_EW (args := [.func (.func 47) #[] #[], .int .i32 a37, .int .i32 a38]) (c := C46) 11 Try.func46 (by kernel_rfl) (by kernel_rfl) (by kernel_rfl) ?_
  refine EW.seq (x := C46.l) (y := C46.r) (by kernel_rfl) ?_
  refine EW.region (id := 0) (ops := C46.l.ops) (by kernel_rfl) ?_
  refine EL.quick 1 [0, 1, 2] [(0, .func (.func 47) #[] #[]), (1, .int .i32 a37), (2, .int .i32 a38)] (by kernel_rfl) ?_
  refine EL.done (by kernel_rfl) ?_
  refine EQ.code ?_
  refine EW.seq (x := C46.r.l) (y := C46.r.r) (by kernel_rfl) ?_
  refine EW.region (id := 1) (ops := C46.r.l.ops) (by kernel_rfl) ?_
  refine EL.quick 3 [7, 8, 9] [(7, .func (.func 47) #[] #[]), (8, .int .i32 a37), (9, .int .i32 a38)] (by kernel_rfl) ?_
  obtain ⟨t49, hc50, H⟩ := b1_out H
  refine EL.of (EO.callD 47 [.int .i32 a37, .int .i32 a38] _ 10 (by kernel_rfl) (by kernel_rfl) (by kernel_rfl) (word_num_add.calls hc50 hS) ?_)
  rintro v w ⟨rfl, hS⟩
  refine EL.quick 1 [6] [(6, .int .i32 t49)] (by kernel_rfl) ?_
  refine EL.done (by kernel_rfl) ?_
  refine EQ.code ?_
  refine EW.ret (by kernel_rfl) ?_
  refine EQ.leave (.int .i32 t49) (by kernel_rfl) ⟨_, rfl, ?_⟩
  refine EL.quick 1 [4] [(4, .int .i32 t49)] (by kernel_rfl) ?_
  refine EL.done (by kernel_rfl) ?_
  refine EQ.code ?_
  refine EW.ret (by kernel_rfl) ?_
  obtain rfl := Option.some.inj H
  exact EQ.leave (.int .i32 t49) (by kernel_rfl) ⟨_, rfl, rfl, (hS.re [] [] rfl (sub_self))⟩

/-! ### (confidant/word.num).sub: function 48 -/
def word_num_sub.f (K : Nat) (a56 : Int) (a57 : Int) : Option Int := some (IntKind.i32.wrap (a56 - a57))
set_option maxRecDepth 100000 in
theorem word_num_sub.calls {K : Nat} {a56 : Int} {a57 : Int} {x58 : Int} {B w : World} {os : List Ass} {rs : List Ro} (H : word_num_sub.f K a56 a57 = some x58) (hS : St B w (os) (rs)) :
    Calls Try.prog 48 [.int .i32 a56, .int .i32 a57].toArray w (fun en w' => ∃ v, en = .returned v ∧ v = .int .i32 x58 ∧ St B w' (os) (rs)) := by
  unfold word_num_sub.f at H
  refine calls_of_EW (args := [.int .i32 a56, .int .i32 a57]) (c := C48) 8 Try.func48 (by kernel_rfl) (by kernel_rfl) (by kernel_rfl) ?_
  refine EW.seq (x := C48.l) (y := C48.r) (by kernel_rfl) ?_
  refine EW.region (id := 0) (ops := C48.l.ops) (by kernel_rfl) ?_
  refine EL.quick 1 [0, 1] [(0, .int .i32 a56), (1, .int .i32 a57)] (by kernel_rfl) ?_
  refine EL.done (by kernel_rfl) ?_
  refine EQ.code ?_
  refine EW.seq (x := C48.r.l) (y := C48.r.r) (by kernel_rfl) ?_
  refine EW.region (id := 1) (ops := C48.r.l.ops) (by kernel_rfl) ?_
  refine EL.quick 4 [4] [(4, .int .i32 (IntKind.i32.wrap (a56 - a57)))] (by kernel_rfl) ?_
  refine EL.done (by kernel_rfl) ?_
  refine EQ.code ?_
  refine EW.ret (by kernel_rfl) ?_
  obtain rfl := Option.some.inj H
  exact EQ.leave (.int .i32 (IntKind.i32.wrap (a56 - a57))) (by kernel_rfl) ⟨_, rfl, rfl, (hS.re [] [] rfl (sub_self))⟩

/-! ### confidant/word.Sub: function 33 -/
def word_Sub.f (K : Nat) (a54 : Int) (a55 : Int) : Option Int := b1 (word_num_sub.f K a54 a55) fun (t66 : Int) => (some t66)
set_option maxRecDepth 100000 in
theorem word_Sub.calls {K : Nat} {a54 : Int} {a55 : Int} {x63 : Int} {B w : World} {os : List Ass} {rs : List Ro} (H : word_Sub.f K a54 a55 = some x63) (hS : St B w (os) (rs)) :
    Calls Try.prog 33 [.int .i32 a54, .int .i32 a55].toArray w (fun en w' => ∃ v, en = .returned v ∧ v = .int .i32 x63 ∧ St B w' (os) (rs)) := by
  unfold word_Sub.f at H
  refine calls_of_EW (args := [.int .i32 a54, .int .i32 a55]) (c := C33) 8 Try.func33 (by kernel_rfl) (by kernel_rfl) (by kernel_rfl) ?_
  refine EW.seq (x := C33.l) (y := C33.r) (by kernel_rfl) ?_
  refine EW.region (id := 0) (ops := C33.l.ops) (by kernel_rfl) ?_
  refine EL.quick 1 [0, 1] [(0, .int .i32 a54), (1, .int .i32 a55)] (by kernel_rfl) ?_
  refine EL.done (by kernel_rfl) ?_
  refine EQ.code ?_
  refine EW.seq (x := C33.r.l) (y := C33.r.r) (by kernel_rfl) ?_
  refine EW.region (id := 1) (ops := C33.r.l.ops) (by kernel_rfl) ?_
  refine EL.quick 2 [5, 6] [(5, .int .i32 a54), (6, .int .i32 a55)] (by kernel_rfl) ?_
  refine EL.inline 46 [.func (.func 48) #[] #[], .int .i32 a54, .int .i32 a55] 7 (by kernel_rfl) (by kernel_rfl) (by kernel_rfl) ?_
  refine calls_of_EW (args := [.func (.func 48) #[] #[], .int .i32 a54, .int .i32 a55]) (c := C46) 11 Try.func46 (by kernel_rfl) (by kernel_rfl) (by kernel_rfl) ?_
  refine EW.seq (x := C46.l) (y := C46.r) (by kernel_rfl) ?_
  refine EW.region (id := 0) (ops := C46.l.ops) (by kernel_rfl) ?_
  refine EL.quick 1 [0, 1, 2] [(0, .func (.func 48) #[] #[]), (1, .int .i32 a54), (2, .int .i32 a55)] (by kernel_rfl) ?_
  refine EL.done (by kernel_rfl) ?_
  refine EQ.code ?_
  refine EW.seq (x := C46.r.l) (y := C46.r.r) (by kernel_rfl) ?_
  refine EW.region (id := 1) (ops := C46.r.l.ops) (by kernel_rfl) ?_
  refine EL.quick 3 [7, 8, 9] [(7, .func (.func 48) #[] #[]), (8, .int .i32 a54), (9, .int .i32 a55)] (by kernel_rfl) ?_
  obtain ⟨t66, hc67, H⟩ := b1_out H
  refine EL.of (EO.callD 48 [.int .i32 a54, .int .i32 a55] _ 10 (by kernel_rfl) (by kernel_rfl) (by kernel_rfl) (word_num_sub.calls hc67 hS) ?_)
  rintro v w ⟨rfl, hS⟩
  refine EL.quick 1 [6] [(6, .int .i32 t66)] (by kernel_rfl) ?_
  refine EL.done (by kernel_rfl) ?_
  refine EQ.code ?_
  refine EW.ret (by kernel_rfl) ?_
  refine EQ.leave (.int .i32 t66) (by kernel_rfl) ⟨_, rfl, ?_⟩
  refine EL.quick 1 [4] [(4, .int .i32 t66)] (by kernel_rfl) ?_
  refine EL.done (by kernel_rfl) ?_
  refine EQ.code ?_
  refine EW.ret (by kernel_rfl) ?_
  obtain rfl := Option.some.inj H
  exact EQ.leave (.int .i32 t66) (by kernel_rfl) ⟨_, rfl, rfl, (hS.re [] [] rfl (sub_self))⟩

/-! ### (confidant/word.num).mul: function 49 -/
def word_num_mul.f (K : Nat) (a73 : Int) (a74 : Int) : Option Int := some (IntKind.i32.wrap (a73 * a74))
set_option maxRecDepth 100000 in
theorem word_num_mul.calls {K : Nat} {a73 : Int} {a74 : Int} {x75 : Int} {B w : World} {os : List Ass} {rs : List Ro} (H : word_num_mul.f K a73 a74 = some x75) (hS : St B w (os) (rs)) :
    Calls Try.prog 49 [.int .i32 a73, .int .i32 a74].toArray w (fun en w' => ∃ v, en = .returned v ∧ v = .int .i32 x75 ∧ St B w' (os) (rs)) := by
  unfold word_num_mul.f at H
  refine calls_of_EW (args := [.int .i32 a73, .int .i32 a74]) (c := C49) 8 Try.func49 (by kernel_rfl) (by kernel_rfl) (by kernel_rfl) ?_
  refine EW.seq (x := C49.l) (y := C49.r) (by kernel_rfl) ?_
  refine EW.region (id := 0) (ops := C49.l.ops) (by kernel_rfl) ?_
  refine EL.quick 1 [0, 1] [(0, .int .i32 a73), (1, .int .i32 a74)] (by kernel_rfl) ?_
  refine EL.done (by kernel_rfl) ?_
  refine EQ.code ?_
  refine EW.seq (x := C49.r.l) (y := C49.r.r) (by kernel_rfl) ?_
  refine EW.region (id := 1) (ops := C49.r.l.ops) (by kernel_rfl) ?_
  refine EL.quick 4 [4] [(4, .int .i32 (IntKind.i32.wrap (a73 * a74)))] (by kernel_rfl) ?_
  refine EL.done (by kernel_rfl) ?_
  refine EQ.code ?_
  refine EW.ret (by kernel_rfl) ?_
  obtain rfl := Option.some.inj H
  exact EQ.leave (.int .i32 (IntKind.i32.wrap (a73 * a74))) (by kernel_rfl) ⟨_, rfl, rfl, (hS.re [] [] rfl (sub_self))⟩

/-! ### confidant/word.Mul: function 34 -/
def word_Mul.f (K : Nat) (a71 : Int) (a72 : Int) : Option Int := b1 (word_num_mul.f K a71 a72) fun (t83 : Int) => (some t83)
set_option maxRecDepth 100000 in
theorem word_Mul.calls {K : Nat} {a71 : Int} {a72 : Int} {x80 : Int} {B w : World} {os : List Ass} {rs : List Ro} (H : word_Mul.f K a71 a72 = some x80) (hS : St B w (os) (rs)) :
    Calls Try.prog 34 [.int .i32 a71, .int .i32 a72].toArray w (fun en w' => ∃ v, en = .returned v ∧ v = .int .i32 x80 ∧ St B w' (os) (rs)) := by
  unfold word_Mul.f at H
  refine calls_of_EW (args := [.int .i32 a71, .int .i32 a72]) (c := C34) 8 Try.func34 (by kernel_rfl) (by kernel_rfl) (by kernel_rfl) ?_
  refine EW.seq (x := C34.l) (y := C34.r) (by kernel_rfl) ?_
  refine EW.region (id := 0) (ops := C34.l.ops) (by kernel_rfl) ?_
  refine EL.quick 1 [0, 1] [(0, .int .i32 a71), (1, .int .i32 a72)] (by kernel_rfl) ?_
  refine EL.done (by kernel_rfl) ?_
  refine EQ.code ?_
  refine EW.seq (x := C34.r.l) (y := C34.r.r) (by kernel_rfl) ?_
  refine EW.region (id := 1) (ops := C34.r.l.ops) (by kernel_rfl) ?_
  refine EL.quick 2 [5, 6] [(5, .int .i32 a71), (6, .int .i32 a72)] (by kernel_rfl) ?_
  refine EL.inline 46 [.func (.func 49) #[] #[], .int .i32 a71, .int .i32 a72] 7 (by kernel_rfl) (by kernel_rfl) (by kernel_rfl) ?_
  refine calls_of_EW (args := [.func (.func 49) #[] #[], .int .i32 a71, .int .i32 a72]) (c := C46) 11 Try.func46 (by kernel_rfl) (by kernel_rfl) (by kernel_rfl) ?_
  refine EW.seq (x := C46.l) (y := C46.r) (by kernel_rfl) ?_
  refine EW.region (id := 0) (ops := C46.l.ops) (by kernel_rfl) ?_
  refine EL.quick 1 [0, 1, 2] [(0, .func (.func 49) #[] #[]), (1, .int .i32 a71), (2, .int .i32 a72)] (by kernel_rfl) ?_
  refine EL.done (by kernel_rfl) ?_
  refine EQ.code ?_
  refine EW.seq (x := C46.r.l) (y := C46.r.r) (by kernel_rfl) ?_
  refine EW.region (id := 1) (ops := C46.r.l.ops) (by kernel_rfl) ?_
  refine EL.quick 3 [7, 8, 9] [(7, .func (.func 49) #[] #[]), (8, .int .i32 a71), (9, .int .i32 a72)] (by kernel_rfl) ?_
  obtain ⟨t83, hc84, H⟩ := b1_out H
  refine EL.of (EO.callD 49 [.int .i32 a71, .int .i32 a72] _ 10 (by kernel_rfl) (by kernel_rfl) (by kernel_rfl) (word_num_mul.calls hc84 hS) ?_)
  rintro v w ⟨rfl, hS⟩
  refine EL.quick 1 [6] [(6, .int .i32 t83)] (by kernel_rfl) ?_
  refine EL.done (by kernel_rfl) ?_
  refine EQ.code ?_
  refine EW.ret (by kernel_rfl) ?_
  refine EQ.leave (.int .i32 t83) (by kernel_rfl) ⟨_, rfl, ?_⟩
  refine EL.quick 1 [4] [(4, .int .i32 t83)] (by kernel_rfl) ?_
  refine EL.done (by kernel_rfl) ?_
  refine EQ.code ?_
  refine EW.ret (by kernel_rfl) ?_
  obtain rfl := Option.some.inj H
  exact EQ.leave (.int .i32 t83) (by kernel_rfl) ⟨_, rfl, rfl, (hS.re [] [] rfl (sub_self))⟩

/-! ### confidant/word.truth: function 53 -/
def word_truth.f (K : Nat) (a97 : Bool) : Option Int := if a97 = true then (some 1) else (some 0)
set_option maxRecDepth 100000 in
theorem word_truth.calls {K : Nat} {a97 : Bool} {x99 : Int} {B w : World} {os : List Ass} {rs : List Ro} (H : word_truth.f K a97 = some x99) (hS : St B w (os) (rs)) :
    Calls Try.prog 53 [.bool (a97)].toArray w (fun en w' => ∃ v, en = .returned v ∧ v = .int .i32 x99 ∧ St B w' (os) (rs)) := by
  unfold word_truth.f at H
  refine calls_of_EW (args := [.bool (a97)]) (c := C53) 4 Try.func53 (by kernel_rfl) (by kernel_rfl) (by kernel_rfl) ?_
  refine EW.seq (x := C53.l) (y := C53.r) (by kernel_rfl) ?_
  refine EW.region (id := 0) (ops := C53.l.ops) (by kernel_rfl) ?_
  refine EL.quick 1 [0] [(0, .bool (a97))] (by kernel_rfl) ?_
  refine EL.done (by kernel_rfl) ?_
  refine EQ.code ?_
  refine EW.seq (x := C53.r.l) (y := C53.r.r) (by kernel_rfl) ?_
  refine EW.seq (x := C53.r.l.l) (y := C53.r.l.r) (by kernel_rfl) ?_
  refine EW.region (id := 1) (ops := C53.r.l.l.ops) (by kernel_rfl) ?_
  refine EL.quick 1 [3] [(3, .bool (a97))] (by kernel_rfl) ?_
  refine EL.done (by kernel_rfl) ?_
  refine EQ.code ?_
  refine EW.condP' (o := (.tmp 3)) (x := C53.r.l.r.l) (y := C53.r.l.r.r) (a97) (by kernel_rfl) (by kernel_rfl) (fun h100 => ?_) (fun h100 => ?_)
  · rw [if_pos h100] at H
    refine EW.seq (x := C53.r.l.r.l.l) (y := C53.r.l.r.l.r) (by kernel_rfl) ?_
    refine EW.region (id := 2) (ops := C53.r.l.r.l.l.ops) (by kernel_rfl) ?_
    refine EL.quick 1 [2] [(2, .int .i32 1)] (by kernel_rfl) ?_
    refine EL.done (by kernel_rfl) ?_
    refine EQ.code ?_
    refine EW.ret (by kernel_rfl) ?_
    refine EQ.ret ?_
    obtain rfl := Option.some.inj H
    exact EQ.leave (.int .i32 1) (by kernel_rfl) ⟨_, rfl, rfl, (hS.re [] [] rfl (sub_self))⟩
  · rw [if_neg h100] at H
    refine EW.skip (by kernel_rfl) ?_
    refine EQ.code ?_
    refine EW.seq (x := C53.r.r.l) (y := C53.r.r.r) (by kernel_rfl) ?_
    refine EW.region (id := 3) (ops := C53.r.r.l.ops) (by kernel_rfl) ?_
    refine EL.quick 1 [2] [(2, .int .i32 0)] (by kernel_rfl) ?_
    refine EL.done (by kernel_rfl) ?_
    refine EQ.code ?_
    refine EW.ret (by kernel_rfl) ?_
    obtain rfl := Option.some.inj H
    exact EQ.leave (.int .i32 0) (by kernel_rfl) ⟨_, rfl, rfl, (hS.re [] [] rfl (sub_self))⟩

/-! ### (confidant/word.num).less: function 50 -/
def word_num_less.f (K : Nat) (a95 : Int) (a96 : Int) : Option Int := b1 (word_truth.f K (decide (a95 < a96))) fun (t104 : Int) => (some t104)
set_option maxRecDepth 100000 in
theorem word_num_less.calls {K : Nat} {a95 : Int} {a96 : Int} {x103 : Int} {B w : World} {os : List Ass} {rs : List Ro} (H : word_num_less.f K a95 a96 = some x103) (hS : St B w (os) (rs)) :
    Calls Try.prog 50 [.int .i32 a95, .int .i32 a96].toArray w (fun en w' => ∃ v, en = .returned v ∧ v = .int .i32 x103 ∧ St B w' (os) (rs)) := by
  unfold word_num_less.f at H
  refine calls_of_EW (args := [.int .i32 a95, .int .i32 a96]) (c := C50) 9 Try.func50 (by kernel_rfl) (by kernel_rfl) (by kernel_rfl) ?_
  refine EW.seq (x := C50.l) (y := C50.r) (by kernel_rfl) ?_
  refine EW.region (id := 0) (ops := C50.l.ops) (by kernel_rfl) ?_
  refine EL.quick 1 [0, 1] [(0, .int .i32 a95), (1, .int .i32 a96)] (by kernel_rfl) ?_
  refine EL.done (by kernel_rfl) ?_
  refine EQ.code ?_
  refine EW.seq (x := C50.r.l) (y := C50.r.r) (by kernel_rfl) ?_
  refine EW.region (id := 1) (ops := C50.r.l.ops) (by kernel_rfl) ?_
  refine EL.quick 3 [7] [(7, .bool (decide (a95 < a96)))] (by kernel_rfl) ?_
  obtain ⟨t104, hc105, H⟩ := b1_out H
  refine EL.of (EO.callD 53 [.bool (decide (a95 < a96))] _ 8 (by kernel_rfl) (by kernel_rfl) (by kernel_rfl) (word_truth.calls hc105 hS) ?_)
  rintro v w ⟨rfl, hS⟩
  refine EL.quick 1 [4] [(4, .int .i32 t104)] (by kernel_rfl) ?_
  refine EL.done (by kernel_rfl) ?_
  refine EQ.code ?_
  refine EW.ret (by kernel_rfl) ?_
  obtain rfl := Option.some.inj H
  exact EQ.leave (.int .i32 t104) (by kernel_rfl) ⟨_, rfl, rfl, (hS.re [] [] rfl (sub_self))⟩

/-! ### confidant/word.Less: function 35 -/
def word_Less.f (K : Nat) (a93 : Int) (a94 : Int) : Option Int := b1 (word_num_less.f K a93 a94) fun (t113 : Int) => (some t113)
set_option maxRecDepth 100000 in
theorem word_Less.calls {K : Nat} {a93 : Int} {a94 : Int} {x110 : Int} {B w : World} {os : List Ass} {rs : List Ro} (H : word_Less.f K a93 a94 = some x110) (hS : St B w (os) (rs)) :
    Calls Try.prog 35 [.int .i32 a93, .int .i32 a94].toArray w (fun en w' => ∃ v, en = .returned v ∧ v = .int .i32 x110 ∧ St B w' (os) (rs)) := by
  unfold word_Less.f at H
  refine calls_of_EW (args := [.int .i32 a93, .int .i32 a94]) (c := C35) 8 Try.func35 (by kernel_rfl) (by kernel_rfl) (by kernel_rfl) ?_
  refine EW.seq (x := C35.l) (y := C35.r) (by kernel_rfl) ?_
  refine EW.region (id := 0) (ops := C35.l.ops) (by kernel_rfl) ?_
  refine EL.quick 1 [0, 1] [(0, .int .i32 a93), (1, .int .i32 a94)] (by kernel_rfl) ?_
  refine EL.done (by kernel_rfl) ?_
  refine EQ.code ?_
  refine EW.seq (x := C35.r.l) (y := C35.r.r) (by kernel_rfl) ?_
  refine EW.region (id := 1) (ops := C35.r.l.ops) (by kernel_rfl) ?_
  refine EL.quick 2 [5, 6] [(5, .int .i32 a93), (6, .int .i32 a94)] (by kernel_rfl) ?_
  refine EL.inline 46 [.func (.func 50) #[] #[], .int .i32 a93, .int .i32 a94] 7 (by kernel_rfl) (by kernel_rfl) (by kernel_rfl) ?_
  refine calls_of_EW (args := [.func (.func 50) #[] #[], .int .i32 a93, .int .i32 a94]) (c := C46) 11 Try.func46 (by kernel_rfl) (by kernel_rfl) (by kernel_rfl) ?_
  refine EW.seq (x := C46.l) (y := C46.r) (by kernel_rfl) ?_
  refine EW.region (id := 0) (ops := C46.l.ops) (by kernel_rfl) ?_
  refine EL.quick 1 [0, 1, 2] [(0, .func (.func 50) #[] #[]), (1, .int .i32 a93), (2, .int .i32 a94)] (by kernel_rfl) ?_
  refine EL.done (by kernel_rfl) ?_
  refine EQ.code ?_
  refine EW.seq (x := C46.r.l) (y := C46.r.r) (by kernel_rfl) ?_
  refine EW.region (id := 1) (ops := C46.r.l.ops) (by kernel_rfl) ?_
  refine EL.quick 3 [7, 8, 9] [(7, .func (.func 50) #[] #[]), (8, .int .i32 a93), (9, .int .i32 a94)] (by kernel_rfl) ?_
  obtain ⟨t113, hc114, H⟩ := b1_out H
  refine EL.of (EO.callD 50 [.int .i32 a93, .int .i32 a94] _ 10 (by kernel_rfl) (by kernel_rfl) (by kernel_rfl) (word_num_less.calls hc114 hS) ?_)
  rintro v w ⟨rfl, hS⟩
  refine EL.quick 1 [6] [(6, .int .i32 t113)] (by kernel_rfl) ?_
  refine EL.done (by kernel_rfl) ?_
  refine EQ.code ?_
  refine EW.ret (by kernel_rfl) ?_
  refine EQ.leave (.int .i32 t113) (by kernel_rfl) ⟨_, rfl, ?_⟩
  refine EL.quick 1 [4] [(4, .int .i32 t113)] (by kernel_rfl) ?_
  refine EL.done (by kernel_rfl) ?_
  refine EQ.code ?_
  refine EW.ret (by kernel_rfl) ?_
  obtain rfl := Option.some.inj H
  exact EQ.leave (.int .i32 t113) (by kernel_rfl) ⟨_, rfl, rfl, (hS.re [] [] rfl (sub_self))⟩

/-! ### (confidant/word.num).eq: function 51 -/
def word_num_eq.f (K : Nat) (a120 : Int) (a121 : Int) : Option Int := b1 (word_truth.f K (decide (a120 = a121))) fun (t125 : Int) => (some t125)
set_option maxRecDepth 100000 in
theorem word_num_eq.calls {K : Nat} {a120 : Int} {a121 : Int} {x124 : Int} {B w : World} {os : List Ass} {rs : List Ro} (H : word_num_eq.f K a120 a121 = some x124) (hS : St B w (os) (rs)) :
    Calls Try.prog 51 [.int .i32 a120, .int .i32 a121].toArray w (fun en w' => ∃ v, en = .returned v ∧ v = .int .i32 x124 ∧ St B w' (os) (rs)) := by
  unfold word_num_eq.f at H
  refine calls_of_EW (args := [.int .i32 a120, .int .i32 a121]) (c := C51) 9 Try.func51 (by kernel_rfl) (by kernel_rfl) (by kernel_rfl) ?_
  refine EW.seq (x := C51.l) (y := C51.r) (by kernel_rfl) ?_
  refine EW.region (id := 0) (ops := C51.l.ops) (by kernel_rfl) ?_
  refine EL.quick 1 [0, 1] [(0, .int .i32 a120), (1, .int .i32 a121)] (by kernel_rfl) ?_
  refine EL.done (by kernel_rfl) ?_
  refine EQ.code ?_
  refine EW.seq (x := C51.r.l) (y := C51.r.r) (by kernel_rfl) ?_
  refine EW.region (id := 1) (ops := C51.r.l.ops) (by kernel_rfl) ?_
  refine EL.quick 3 [7] [(7, .bool (decide (a120 = a121)))] (by kernel_rfl) ?_
  obtain ⟨t125, hc126, H⟩ := b1_out H
  refine EL.of (EO.callD 53 [.bool (decide (a120 = a121))] _ 8 (by kernel_rfl) (by kernel_rfl) (by kernel_rfl) (word_truth.calls hc126 hS) ?_)
  rintro v w ⟨rfl, hS⟩
  refine EL.quick 1 [4] [(4, .int .i32 t125)] (by kernel_rfl) ?_
  refine EL.done (by kernel_rfl) ?_
  refine EQ.code ?_
  refine EW.ret (by kernel_rfl) ?_
  obtain rfl := Option.some.inj H
  exact EQ.leave (.int .i32 t125) (by kernel_rfl) ⟨_, rfl, rfl, (hS.re [] [] rfl (sub_self))⟩

/-! ### confidant/word.Eq: function 37 -/
def word_Eq.f (K : Nat) (a118 : Int) (a119 : Int) : Option Int := b1 (word_num_eq.f K a118 a119) fun (t134 : Int) => (some t134)
set_option maxRecDepth 100000 in
theorem word_Eq.calls {K : Nat} {a118 : Int} {a119 : Int} {x131 : Int} {B w : World} {os : List Ass} {rs : List Ro} (H : word_Eq.f K a118 a119 = some x131) (hS : St B w (os) (rs)) :
    Calls Try.prog 37 [.int .i32 a118, .int .i32 a119].toArray w (fun en w' => ∃ v, en = .returned v ∧ v = .int .i32 x131 ∧ St B w' (os) (rs)) := by
  unfold word_Eq.f at H
  refine calls_of_EW (args := [.int .i32 a118, .int .i32 a119]) (c := C37) 8 Try.func37 (by kernel_rfl) (by kernel_rfl) (by kernel_rfl) ?_
  refine EW.seq (x := C37.l) (y := C37.r) (by kernel_rfl) ?_
  refine EW.region (id := 0) (ops := C37.l.ops) (by kernel_rfl) ?_
  refine EL.quick 1 [0, 1] [(0, .int .i32 a118), (1, .int .i32 a119)] (by kernel_rfl) ?_
  refine EL.done (by kernel_rfl) ?_
  refine EQ.code ?_
  refine EW.seq (x := C37.r.l) (y := C37.r.r) (by kernel_rfl) ?_
  refine EW.region (id := 1) (ops := C37.r.l.ops) (by kernel_rfl) ?_
  refine EL.quick 2 [5, 6] [(5, .int .i32 a118), (6, .int .i32 a119)] (by kernel_rfl) ?_
  refine EL.inline 46 [.func (.func 51) #[] #[], .int .i32 a118, .int .i32 a119] 7 (by kernel_rfl) (by kernel_rfl) (by kernel_rfl) ?_
  refine calls_of_EW (args := [.func (.func 51) #[] #[], .int .i32 a118, .int .i32 a119]) (c := C46) 11 Try.func46 (by kernel_rfl) (by kernel_rfl) (by kernel_rfl) ?_
  refine EW.seq (x := C46.l) (y := C46.r) (by kernel_rfl) ?_
  refine EW.region (id := 0) (ops := C46.l.ops) (by kernel_rfl) ?_
  refine EL.quick 1 [0, 1, 2] [(0, .func (.func 51) #[] #[]), (1, .int .i32 a118), (2, .int .i32 a119)] (by kernel_rfl) ?_
  refine EL.done (by kernel_rfl) ?_
  refine EQ.code ?_
  refine EW.seq (x := C46.r.l) (y := C46.r.r) (by kernel_rfl) ?_
  refine EW.region (id := 1) (ops := C46.r.l.ops) (by kernel_rfl) ?_
  refine EL.quick 3 [7, 8, 9] [(7, .func (.func 51) #[] #[]), (8, .int .i32 a118), (9, .int .i32 a119)] (by kernel_rfl) ?_
  obtain ⟨t134, hc135, H⟩ := b1_out H
  refine EL.of (EO.callD 51 [.int .i32 a118, .int .i32 a119] _ 10 (by kernel_rfl) (by kernel_rfl) (by kernel_rfl) (word_num_eq.calls hc135 hS) ?_)
  rintro v w ⟨rfl, hS⟩
  refine EL.quick 1 [6] [(6, .int .i32 t134)] (by kernel_rfl) ?_
  refine EL.done (by kernel_rfl) ?_
  refine EQ.code ?_
  refine EW.ret (by kernel_rfl) ?_
  refine EQ.leave (.int .i32 t134) (by kernel_rfl) ⟨_, rfl, ?_⟩
  refine EL.quick 1 [4] [(4, .int .i32 t134)] (by kernel_rfl) ?_
  refine EL.done (by kernel_rfl) ?_
  refine EQ.code ?_
  refine EW.ret (by kernel_rfl) ?_
  obtain rfl := Option.some.inj H
  exact EQ.leave (.int .i32 t134) (by kernel_rfl) ⟨_, rfl, rfl, (hS.re [] [] rfl (sub_self))⟩

/-! ### confidant/confidantlaw9.known: function 29 -/
def confidantlaw9_known.f (K : Nat)  : Option Bool := b2 (word_Div.f K (-7) 2) fun (t142 : Int) (t143 : Bool) => (b2 (word_Div.f K 1 0) fun (t148 : Int) (t149 : Bool) => (b2 (word_Div.f K (-2147483648) (-1)) fun (t154 : Int) (t155 : Bool) => (b1 (word_Add.f K 2147483647 1) fun (t157 : Int) => (if t157 = (-2147483648) then (b1 (word_Sub.f K 1 2) fun (t160 : Int) => (if t160 = (-1) then (b1 (word_Mul.f K 3 (-4)) fun (t163 : Int) => (if t163 = (-12) then (if t143 = true then (if t142 = (-3) then (if t149 = true then (some false) else (if t155 = true then (if t154 = (-2147483648) then (b1 (word_Less.f K 1 2) fun (t171 : Int) => (if t171 = 1 then (b1 (word_Eq.f K 1 2) fun (t174 : Int) => (some (decide (t174 = 0)))) else (some false))) else (some false)) else (some false))) else (some false)) else (some false)) else (some false))) else (some false))) else (some false)))))
set_option maxRecDepth 100000 in
theorem confidantlaw9_known.calls {K : Nat} {x138 : Bool} {B w : World} {os : List Ass} {rs : List Ro} (H : confidantlaw9_known.f K = some x138) (hS : St B w (os) (rs)) :
    Calls Try.prog 29 [].toArray w (fun en w' => ∃ v, en = .returned v ∧ v = .bool (x138) ∧ St B w' (os) (rs)) := by
  unfold confidantlaw9_known.f at H
  refine calls_of_EW (args := []) (c := C29) 55 Try.func29 (by kernel_rfl) (by kernel_rfl) (by kernel_rfl) ?_
  refine EW.seq (x := C29.l) (y := C29.r) (by kernel_rfl) ?_
  refine EW.region (id := 0) (ops := C29.l.ops) (by kernel_rfl) ?_
  refine EL.quick 1 [] [] (by kernel_rfl) ?_
  refine EL.done (by kernel_rfl) ?_
  refine EQ.code ?_
  refine EW.seq (x := C29.r.l) (y := C29.r.r) (by kernel_rfl) ?_
  refine EW.region (id := 1) (ops := C29.r.l.ops) (by kernel_rfl) ?_
  obtain ⟨t142, t143, hc144, H⟩ := b2_out H
  refine EL.of (EO.callD 30 [.int .i32 (-7), .int .i32 2] _ 8 (by kernel_rfl) (by kernel_rfl) (by kernel_rfl) (word_Div.calls hc144 hS) ?_)
  rintro v w ⟨rfl, hS⟩
  refine EL.quick 5 [1, 2] [(1, .int .i32 t142), (2, .bool (t143))] (by kernel_rfl) ?_
  refine EL.done (by kernel_rfl) ?_
  refine EQ.code ?_
  refine EW.seq (x := C29.r.r.l) (y := C29.r.r.r) (by kernel_rfl) ?_
  refine EW.region (id := 2) (ops := C29.r.r.l.ops) (by kernel_rfl) ?_
  obtain ⟨t148, t149, hc150, H⟩ := b2_out H
  refine EL.of (EO.callD 30 [.int .i32 1, .int .i32 0] _ 12 (by kernel_rfl) (by kernel_rfl) (by kernel_rfl) (word_Div.calls hc150 hS) ?_)
  rintro v w ⟨rfl, hS⟩
  refine EL.quick 5 [1, 2, 4] [(1, .int .i32 t142), (2, .bool (t143)), (4, .bool (t149))] (by kernel_rfl) ?_
  refine EL.done (by kernel_rfl) ?_
  refine EQ.code ?_
  refine EW.seq (x := C29.r.r.r.l) (y := C29.r.r.r.r) (by kernel_rfl) ?_
  refine EW.region (id := 3) (ops := C29.r.r.r.l.ops) (by kernel_rfl) ?_
  obtain ⟨t154, t155, hc156, H⟩ := b2_out H
  refine EL.of (EO.callD 30 [.int .i32 (-2147483648), .int .i32 (-1)] _ 16 (by kernel_rfl) (by kernel_rfl) (by kernel_rfl) (word_Div.calls hc156 hS) ?_)
  rintro v w ⟨rfl, hS⟩
  refine EL.quick 5 [1, 2, 4, 5, 6] [(1, .int .i32 t142), (2, .bool (t143)), (4, .bool (t149)), (5, .int .i32 t154), (6, .bool (t155))] (by kernel_rfl) ?_
  refine EL.done (by kernel_rfl) ?_
  refine EQ.code ?_
  refine EW.seq (x := C29.r.r.r.r.l) (y := C29.r.r.r.r.r) (by kernel_rfl) ?_
  refine EW.region (id := 4) (ops := C29.r.r.r.r.l.ops) (by kernel_rfl) ?_
  obtain ⟨t157, hc158, H⟩ := b1_out H
  refine EL.of (EO.callD 32 [.int .i32 2147483647, .int .i32 1] _ 19 (by kernel_rfl) (by kernel_rfl) (by kernel_rfl) (word_Add.calls hc158 hS) ?_)
  rintro v w ⟨rfl, hS⟩
  refine EL.quick 2 [1, 2, 4, 5, 6, 21] [(1, .int .i32 t142), (2, .bool (t143)), (4, .bool (t149)), (5, .int .i32 t154), (6, .bool (t155)), (21, .bool (decide (t157 = (-2147483648))))] (by kernel_rfl) ?_
  by_cases h159 : t157 = (-2147483648)
  · rw [if_pos h159] at H
    refine EL.keep [1, 2, 4, 5, 6, 21] [(1, .int .i32 t142), (2, .bool (t143)), (4, .bool (t149)), (5, .int .i32 t154), (6, .bool (t155)), (21, .bool (decide (t157 = (-2147483648))))] (by kernel_rfl) ?_
    refine EL.as' [(1, .int .i32 t142), (2, .bool (t143)), (4, .bool (t149)), (5, .int .i32 t154), (6, .bool (t155)), (21, .bool (true))] (by simp only [dec_t h159, Bool.not_true, Bool.not_false]) ?_
    obtain ⟨t160, hc161, H⟩ := b1_out H
    refine EL.of (EO.callD 33 [.int .i32 1, .int .i32 2] _ 22 (by kernel_rfl) (by kernel_rfl) (by kernel_rfl) (word_Sub.calls hc161 hS) ?_)
    rintro v w ⟨rfl, hS⟩
    refine EL.quick 3 [1, 2, 4, 5, 6, 25] [(1, .int .i32 t142), (2, .bool (t143)), (4, .bool (t149)), (5, .int .i32 t154), (6, .bool (t155)), (25, .bool (decide (t160 = (-1))))] (by kernel_rfl) ?_
    by_cases h162 : t160 = (-1)
    · rw [if_pos h162] at H
      refine EL.keep [1, 2, 4, 5, 6, 25] [(1, .int .i32 t142), (2, .bool (t143)), (4, .bool (t149)), (5, .int .i32 t154), (6, .bool (t155)), (25, .bool (decide (t160 = (-1))))] (by kernel_rfl) ?_
      refine EL.as' [(1, .int .i32 t142), (2, .bool (t143)), (4, .bool (t149)), (5, .int .i32 t154), (6, .bool (t155)), (25, .bool (true))] (by simp only [dec_t h162, Bool.not_true, Bool.not_false]) ?_
      obtain ⟨t163, hc164, H⟩ := b1_out H
      refine EL.of (EO.callD 34 [.int .i32 3, .int .i32 (-4)] _ 26 (by kernel_rfl) (by kernel_rfl) (by kernel_rfl) (word_Mul.calls hc164 hS) ?_)
      rintro v w ⟨rfl, hS⟩
      refine EL.quick 3 [1, 2, 4, 5, 6, 29] [(1, .int .i32 t142), (2, .bool (t143)), (4, .bool (t149)), (5, .int .i32 t154), (6, .bool (t155)), (29, .bool (decide (t163 = (-12))))] (by kernel_rfl) ?_
      by_cases h165 : t163 = (-12)
      · rw [if_pos h165] at H
        refine EL.keep [1, 2, 4, 5, 6, 29] [(1, .int .i32 t142), (2, .bool (t143)), (4, .bool (t149)), (5, .int .i32 t154), (6, .bool (t155)), (29, .bool (decide (t163 = (-12))))] (by kernel_rfl) ?_
        refine EL.as' [(1, .int .i32 t142), (2, .bool (t143)), (4, .bool (t149)), (5, .int .i32 t154), (6, .bool (t155)), (29, .bool (true))] (by simp only [dec_t h165, Bool.not_true, Bool.not_false]) ?_
        refine EL.quick 3 [1, 4, 5, 6, 32] [(1, .int .i32 t142), (4, .bool (t149)), (5, .int .i32 t154), (6, .bool (t155)), (32, .bool (t143))] (by kernel_rfl) ?_
        by_cases h166 : t143 = true
        · rw [if_pos h166] at H
          refine EL.keep [1, 4, 5, 6, 32] [(1, .int .i32 t142), (4, .bool (t149)), (5, .int .i32 t154), (6, .bool (t155)), (32, .bool (t143))] (by kernel_rfl) ?_
          refine EL.as' [(1, .int .i32 t142), (4, .bool (t149)), (5, .int .i32 t154), (6, .bool (t155)), (32, .bool (true))] (by simp only [h166, Bool.not_true, Bool.not_false]) ?_
          refine EL.quick 4 [4, 5, 6, 36] [(4, .bool (t149)), (5, .int .i32 t154), (6, .bool (t155)), (36, .bool (decide (t142 = (-3))))] (by kernel_rfl) ?_
          by_cases h167 : t142 = (-3)
          · rw [if_pos h167] at H
            refine EL.keep [4, 5, 6, 36] [(4, .bool (t149)), (5, .int .i32 t154), (6, .bool (t155)), (36, .bool (decide (t142 = (-3))))] (by kernel_rfl) ?_
            refine EL.as' [(4, .bool (t149)), (5, .int .i32 t154), (6, .bool (t155)), (36, .bool (true))] (by simp only [dec_t h167, Bool.not_true, Bool.not_false]) ?_
            refine EL.quick 4 [5, 6, 40] [(5, .int .i32 t154), (6, .bool (t155)), (40, .bool (!(t149)))] (by kernel_rfl) ?_
            by_cases h168 : t149 = true
            · rw [if_pos h168] at H
              refine EL.keep [5, 6, 40] [(5, .int .i32 t154), (6, .bool (t155)), (40, .bool (!(t149)))] (by kernel_rfl) ?_
              refine EL.as' [(5, .int .i32 t154), (6, .bool (t155)), (40, .bool (false))] (by simp only [h168, Bool.not_true, Bool.not_false]) ?_
              refine EL.quick 15 [0] [(0, .bool (false))] (by kernel_rfl) ?_
              refine EL.done (by kernel_rfl) ?_
              refine EQ.code ?_
              refine EW.ret (by kernel_rfl) ?_
              obtain rfl := Option.some.inj H
              exact EQ.leave (.bool (false)) (by kernel_rfl) ⟨_, rfl, rfl, (hS.re [] [] rfl (sub_self))⟩
            · rw [if_neg h168] at H
              refine EL.keep [5, 6, 40] [(5, .int .i32 t154), (6, .bool (t155)), (40, .bool (!(t149)))] (by kernel_rfl) ?_
              refine EL.as' [(5, .int .i32 t154), (6, .bool (t155)), (40, .bool (true))] (by simp only [(Bool.eq_false_iff.2 h168), Bool.not_true, Bool.not_false]) ?_
              refine EL.quick 3 [5, 43] [(5, .int .i32 t154), (43, .bool (t155))] (by kernel_rfl) ?_
              by_cases h169 : t155 = true
              · rw [if_pos h169] at H
                refine EL.keep [5, 43] [(5, .int .i32 t154), (43, .bool (t155))] (by kernel_rfl) ?_
                refine EL.as' [(5, .int .i32 t154), (43, .bool (true))] (by simp only [h169, Bool.not_true, Bool.not_false]) ?_
                refine EL.quick 4 [47] [(47, .bool (decide (t154 = (-2147483648))))] (by kernel_rfl) ?_
                by_cases h170 : t154 = (-2147483648)
                · rw [if_pos h170] at H
                  refine EL.keep [47] [(47, .bool (decide (t154 = (-2147483648))))] (by kernel_rfl) ?_
                  refine EL.as' [(47, .bool (true))] (by simp only [dec_t h170, Bool.not_true, Bool.not_false]) ?_
                  obtain ⟨t171, hc172, H⟩ := b1_out H
                  refine EL.of (EO.callD 35 [.int .i32 1, .int .i32 2] _ 48 (by kernel_rfl) (by kernel_rfl) (by kernel_rfl) (word_Less.calls hc172 hS) ?_)
                  rintro v w ⟨rfl, hS⟩
                  refine EL.quick 3 [51] [(51, .bool (decide (t171 = 1)))] (by kernel_rfl) ?_
                  by_cases h173 : t171 = 1
                  · rw [if_pos h173] at H
                    refine EL.keep [51] [(51, .bool (decide (t171 = 1)))] (by kernel_rfl) ?_
                    refine EL.as' [(51, .bool (true))] (by simp only [dec_t h173, Bool.not_true, Bool.not_false]) ?_
                    obtain ⟨t174, hc175, H⟩ := b1_out H
                    refine EL.of (EO.callD 37 [.int .i32 1, .int .i32 2] _ 52 (by kernel_rfl) (by kernel_rfl) (by kernel_rfl) (word_Eq.calls hc175 hS) ?_)
                    rintro v w ⟨rfl, hS⟩
                    refine EL.quick 3 [0] [(0, .bool (decide (t174 = 0)))] (by kernel_rfl) ?_
                    refine EL.done (by kernel_rfl) ?_
                    refine EQ.code ?_
                    refine EW.ret (by kernel_rfl) ?_
                    obtain rfl := Option.some.inj H
                    exact EQ.leave (.bool (decide (t174 = 0))) (by kernel_rfl) ⟨_, rfl, rfl, (hS.re [] [] rfl (sub_self))⟩
                  · rw [if_neg h173] at H
                    refine EL.keep [51] [(51, .bool (decide (t171 = 1)))] (by kernel_rfl) ?_
                    refine EL.as' [(51, .bool (false))] (by simp only [dec_f h173, Bool.not_true, Bool.not_false]) ?_
                    refine EL.quick 4 [0] [(0, .bool (false))] (by kernel_rfl) ?_
                    refine EL.done (by kernel_rfl) ?_
                    refine EQ.code ?_
                    refine EW.ret (by kernel_rfl) ?_
                    obtain rfl := Option.some.inj H
                    exact EQ.leave (.bool (false)) (by kernel_rfl) ⟨_, rfl, rfl, (hS.re [] [] rfl (sub_self))⟩
                · rw [if_neg h170] at H
                  refine EL.keep [47] [(47, .bool (decide (t154 = (-2147483648))))] (by kernel_rfl) ?_
                  refine EL.as' [(47, .bool (false))] (by simp only [dec_f h170, Bool.not_true, Bool.not_false]) ?_
                  refine EL.quick 8 [0] [(0, .bool (false))] (by kernel_rfl) ?_
                  refine EL.done (by kernel_rfl) ?_
                  refine EQ.code ?_
                  refine EW.ret (by kernel_rfl) ?_
                  obtain rfl := Option.some.inj H
                  exact EQ.leave (.bool (false)) (by kernel_rfl) ⟨_, rfl, rfl, (hS.re [] [] rfl (sub_self))⟩
              · rw [if_neg h169] at H
                refine EL.keep [5, 43] [(5, .int .i32 t154), (43, .bool (t155))] (by kernel_rfl) ?_
                refine EL.as' [(5, .int .i32 t154), (43, .bool (false))] (by simp only [(Bool.eq_false_iff.2 h169), Bool.not_true, Bool.not_false]) ?_
                refine EL.quick 12 [0] [(0, .bool (false))] (by kernel_rfl) ?_
                refine EL.done (by kernel_rfl) ?_
                refine EQ.code ?_
                refine EW.ret (by kernel_rfl) ?_
                obtain rfl := Option.some.inj H
                exact EQ.leave (.bool (false)) (by kernel_rfl) ⟨_, rfl, rfl, (hS.re [] [] rfl (sub_self))⟩
          · rw [if_neg h167] at H
            refine EL.keep [4, 5, 6, 36] [(4, .bool (t149)), (5, .int .i32 t154), (6, .bool (t155)), (36, .bool (decide (t142 = (-3))))] (by kernel_rfl) ?_
            refine EL.as' [(4, .bool (t149)), (5, .int .i32 t154), (6, .bool (t155)), (36, .bool (false))] (by simp only [dec_f h167, Bool.not_true, Bool.not_false]) ?_
            refine EL.quick 19 [0] [(0, .bool (false))] (by kernel_rfl) ?_
            refine EL.done (by kernel_rfl) ?_
            refine EQ.code ?_
            refine EW.ret (by kernel_rfl) ?_
            obtain rfl := Option.some.inj H
            exact EQ.leave (.bool (false)) (by kernel_rfl) ⟨_, rfl, rfl, (hS.re [] [] rfl (sub_self))⟩
        · rw [if_neg h166] at H
          refine EL.keep [1, 4, 5, 6, 32] [(1, .int .i32 t142), (4, .bool (t149)), (5, .int .i32 t154), (6, .bool (t155)), (32, .bool (t143))] (by kernel_rfl) ?_
          refine EL.as' [(1, .int .i32 t142), (4, .bool (t149)), (5, .int .i32 t154), (6, .bool (t155)), (32, .bool (false))] (by simp only [(Bool.eq_false_iff.2 h166), Bool.not_true, Bool.not_false]) ?_
          refine EL.quick 23 [0] [(0, .bool (false))] (by kernel_rfl) ?_
          refine EL.done (by kernel_rfl) ?_
          refine EQ.code ?_
          refine EW.ret (by kernel_rfl) ?_
          obtain rfl := Option.some.inj H
          exact EQ.leave (.bool (false)) (by kernel_rfl) ⟨_, rfl, rfl, (hS.re [] [] rfl (sub_self))⟩
      · rw [if_neg h165] at H
        refine EL.keep [1, 2, 4, 5, 6, 29] [(1, .int .i32 t142), (2, .bool (t143)), (4, .bool (t149)), (5, .int .i32 t154), (6, .bool (t155)), (29, .bool (decide (t163 = (-12))))] (by kernel_rfl) ?_
        refine EL.as' [(1, .int .i32 t142), (2, .bool (t143)), (4, .bool (t149)), (5, .int .i32 t154), (6, .bool (t155)), (29, .bool (false))] (by simp only [dec_f h165, Bool.not_true, Bool.not_false]) ?_
        refine EL.quick 26 [0] [(0, .bool (false))] (by kernel_rfl) ?_
        refine EL.done (by kernel_rfl) ?_
        refine EQ.code ?_
        refine EW.ret (by kernel_rfl) ?_
        obtain rfl := Option.some.inj H
        exact EQ.leave (.bool (false)) (by kernel_rfl) ⟨_, rfl, rfl, (hS.re [] [] rfl (sub_self))⟩
    · rw [if_neg h162] at H
      refine EL.keep [1, 2, 4, 5, 6, 25] [(1, .int .i32 t142), (2, .bool (t143)), (4, .bool (t149)), (5, .int .i32 t154), (6, .bool (t155)), (25, .bool (decide (t160 = (-1))))] (by kernel_rfl) ?_
      refine EL.as' [(1, .int .i32 t142), (2, .bool (t143)), (4, .bool (t149)), (5, .int .i32 t154), (6, .bool (t155)), (25, .bool (false))] (by simp only [dec_f h162, Bool.not_true, Bool.not_false]) ?_
      refine EL.quick 30 [0] [(0, .bool (false))] (by kernel_rfl) ?_
      refine EL.done (by kernel_rfl) ?_
      refine EQ.code ?_
      refine EW.ret (by kernel_rfl) ?_
      obtain rfl := Option.some.inj H
      exact EQ.leave (.bool (false)) (by kernel_rfl) ⟨_, rfl, rfl, (hS.re [] [] rfl (sub_self))⟩
  · rw [if_neg h159] at H
    refine EL.keep [1, 2, 4, 5, 6, 21] [(1, .int .i32 t142), (2, .bool (t143)), (4, .bool (t149)), (5, .int .i32 t154), (6, .bool (t155)), (21, .bool (decide (t157 = (-2147483648))))] (by kernel_rfl) ?_
    refine EL.as' [(1, .int .i32 t142), (2, .bool (t143)), (4, .bool (t149)), (5, .int .i32 t154), (6, .bool (t155)), (21, .bool (false))] (by simp only [dec_f h159, Bool.not_true, Bool.not_false]) ?_
    refine EL.quick 34 [0] [(0, .bool (false))] (by kernel_rfl) ?_
    refine EL.done (by kernel_rfl) ?_
    refine EQ.code ?_
    refine EW.ret (by kernel_rfl) ?_
    obtain rfl := Option.some.inj H
    exact EQ.leave (.bool (false)) (by kernel_rfl) ⟨_, rfl, rfl, (hS.re [] [] rfl (sub_self))⟩

/-! ### confidant/confidantref9.Div: function 31 -/
def confidantref9_Div.f (K : Nat) (a204 : Int) (a205 : Int) : Option (Int × Bool) := if a205 = 0 then (some (0, false)) else (if (IntKind.i64.wrap a205) = 0 then none else (lt (IntKind.i32.wrap (IntKind.i64.wrap (Int.tdiv (IntKind.i64.wrap a204) (IntKind.i64.wrap a205)))) fun y215 => (some (y215, true))))
set_option maxRecDepth 100000 in
theorem confidantref9_Div.calls {K : Nat} {a204 : Int} {a205 : Int} {x210 : Int} {x211 : Bool} {B w : World} {os : List Ass} {rs : List Ro} (H : confidantref9_Div.f K a204 a205 = some (x210, x211)) (hS : St B w (os) (rs)) :
    Calls Try.prog 31 [.int .i32 a204, .int .i32 a205].toArray w (fun en w' => ∃ v, en = .returned v ∧ v = .tuple #[.int .i32 x210, .bool (x211)] ∧ St B w' (os) (rs)) := by
  unfold confidantref9_Div.f at H
  refine calls_of_EW (args := [.int .i32 a204, .int .i32 a205]) (c := C31) 14 Try.func31 (by kernel_rfl) (by kernel_rfl) (by kernel_rfl) ?_
  refine EW.seq (x := C31.l) (y := C31.r) (by kernel_rfl) ?_
  refine EW.region (id := 0) (ops := C31.l.ops) (by kernel_rfl) ?_
  refine EL.quick 2 [0, 1] [(0, .int .i32 a204), (1, .int .i32 a205)] (by kernel_rfl) ?_
  refine EL.done (by kernel_rfl) ?_
  refine EQ.code ?_
  refine EW.seq (x := C31.r.l) (y := C31.r.r) (by kernel_rfl) ?_
  refine EW.seq (x := C31.r.l.l) (y := C31.r.l.r) (by kernel_rfl) ?_
  refine EW.region (id := 1) (ops := C31.r.l.l.ops) (by kernel_rfl) ?_
  refine EL.quick 2 [0, 1, 7] [(0, .int .i32 a204), (1, .int .i32 a205), (7, .bool (decide (a205 = 0)))] (by kernel_rfl) ?_
  refine EL.done (by kernel_rfl) ?_
  refine EQ.code ?_
  refine EW.condP (o := (.tmp 7)) (x := C31.r.l.r.l) (y := C31.r.l.r.r) (a205 = 0) (by kernel_rfl) (by kernel_rfl) (fun h213 => ?_) (fun h213 => ?_)
  · rw [if_pos h213] at H
    refine EW.seq (x := C31.r.l.r.l.l) (y := C31.r.l.r.l.r) (by kernel_rfl) ?_
    refine EW.region (id := 2) (ops := C31.r.l.r.l.l.ops) (by kernel_rfl) ?_
    refine EL.quick 2 [4, 5] [(4, .int .i32 0), (5, .bool (false))] (by kernel_rfl) ?_
    refine EL.done (by kernel_rfl) ?_
    refine EQ.code ?_
    refine EW.ret (by kernel_rfl) ?_
    refine EQ.ret ?_
    simp only [Option.some.injEq, Prod.mk.injEq] at H
    obtain ⟨rfl, rfl⟩ := H
    exact EQ.leave (.tuple #[.int .i32 0, .bool (false)]) (by kernel_rfl) ⟨_, rfl, rfl, (hS.re [] [] rfl (sub_self))⟩
  · rw [if_neg h213] at H
    refine EW.skip (by kernel_rfl) ?_
    refine EQ.code ?_
    refine EW.seq (x := C31.r.r.l) (y := C31.r.r.r) (by kernel_rfl) ?_
    refine EW.region (id := 3) (ops := C31.r.r.l.ops) (by kernel_rfl) ?_
    refine EL.quick 4 [9, 11] [(9, .int .i64 (IntKind.i64.wrap a204)), (11, .int .i64 (IntKind.i64.wrap a205))] (by kernel_rfl) ?_
    obtain ⟨h214, H⟩ := ite_out H
    refine EL.of (EO.Y (YO.div .quo .i64 (IntKind.i64.wrap a204) (IntKind.i64.wrap a205) (IntKind.i64.wrap (Int.tdiv (IntKind.i64.wrap a204) (IntKind.i64.wrap a205))) 12 (by kernel_rfl) (by kernel_rfl) (by kernel_rfl) h214 (by first | exact .inl ⟨rfl, rfl⟩ | exact .inr ⟨rfl, rfl⟩)) ?_)
    refine EL.quick 3 [4, 5] [(4, .int .i32 (IntKind.i32.wrap (IntKind.i64.wrap (Int.tdiv (IntKind.i64.wrap a204) (IntKind.i64.wrap a205))))), (5, .bool (true))] (by kernel_rfl) ?_
    obtain ⟨y215, hy215, H⟩ := lt_out H
    refine EL.keep [4, 5] [(4, .int .i32 (IntKind.i32.wrap (IntKind.i64.wrap (Int.tdiv (IntKind.i64.wrap a204) (IntKind.i64.wrap a205))))), (5, .bool (true))] (by kernel_rfl) ?_
    refine EL.as' [(4, .int .i32 y215), (5, .bool (true))] (by subst hy215; rfl) ?_
    refine EL.done (by kernel_rfl) ?_
    refine EQ.code ?_
    refine EW.ret (by kernel_rfl) ?_
    simp only [Option.some.injEq, Prod.mk.injEq] at H
    obtain ⟨rfl, rfl⟩ := H
    exact EQ.leave (.tuple #[.int .i32 y215, .bool (true)]) (by kernel_rfl) ⟨_, rfl, rfl, (hS.re [] [] rfl (sub_self))⟩

/-! ### confidant/confidantref9.Truth: function 36 -/
def confidantref9_Truth.f (K : Nat) (a235 : Bool) : Option Int := if a235 = true then (some 1) else (some 0)
set_option maxRecDepth 100000 in
theorem confidantref9_Truth.calls {K : Nat} {a235 : Bool} {x237 : Int} {B w : World} {os : List Ass} {rs : List Ro} (H : confidantref9_Truth.f K a235 = some x237) (hS : St B w (os) (rs)) :
    Calls Try.prog 36 [.bool (a235)].toArray w (fun en w' => ∃ v, en = .returned v ∧ v = .int .i32 x237 ∧ St B w' (os) (rs)) := by
  unfold confidantref9_Truth.f at H
  refine calls_of_EW (args := [.bool (a235)]) (c := C36) 4 Try.func36 (by kernel_rfl) (by kernel_rfl) (by kernel_rfl) ?_
  refine EW.seq (x := C36.l) (y := C36.r) (by kernel_rfl) ?_
  refine EW.region (id := 0) (ops := C36.l.ops) (by kernel_rfl) ?_
  refine EL.quick 1 [0] [(0, .bool (a235))] (by kernel_rfl) ?_
  refine EL.done (by kernel_rfl) ?_
  refine EQ.code ?_
  refine EW.seq (x := C36.r.l) (y := C36.r.r) (by kernel_rfl) ?_
  refine EW.seq (x := C36.r.l.l) (y := C36.r.l.r) (by kernel_rfl) ?_
  refine EW.region (id := 1) (ops := C36.r.l.l.ops) (by kernel_rfl) ?_
  refine EL.quick 1 [3] [(3, .bool (a235))] (by kernel_rfl) ?_
  refine EL.done (by kernel_rfl) ?_
  refine EQ.code ?_
  refine EW.condP' (o := (.tmp 3)) (x := C36.r.l.r.l) (y := C36.r.l.r.r) (a235) (by kernel_rfl) (by kernel_rfl) (fun h238 => ?_) (fun h238 => ?_)
  · rw [if_pos h238] at H
    refine EW.seq (x := C36.r.l.r.l.l) (y := C36.r.l.r.l.r) (by kernel_rfl) ?_
    refine EW.region (id := 2) (ops := C36.r.l.r.l.l.ops) (by kernel_rfl) ?_
    refine EL.quick 1 [2] [(2, .int .i32 1)] (by kernel_rfl) ?_
    refine EL.done (by kernel_rfl) ?_
    refine EQ.code ?_
    refine EW.ret (by kernel_rfl) ?_
    refine EQ.ret ?_
    obtain rfl := Option.some.inj H
    exact EQ.leave (.int .i32 1) (by kernel_rfl) ⟨_, rfl, rfl, (hS.re [] [] rfl (sub_self))⟩
  · rw [if_neg h238] at H
    refine EW.skip (by kernel_rfl) ?_
    refine EQ.code ?_
    refine EW.seq (x := C36.r.r.l) (y := C36.r.r.r) (by kernel_rfl) ?_
    refine EW.region (id := 3) (ops := C36.r.r.l.ops) (by kernel_rfl) ?_
    refine EL.quick 1 [2] [(2, .int .i32 0)] (by kernel_rfl) ?_
    refine EL.done (by kernel_rfl) ?_
    refine EQ.code ?_
    refine EW.ret (by kernel_rfl) ?_
    obtain rfl := Option.some.inj H
    exact EQ.leave (.int .i32 0) (by kernel_rfl) ⟨_, rfl, rfl, (hS.re [] [] rfl (sub_self))⟩

/-! ### confidant/confidantlaw9.WordTells: function 9 -/
def confidantlaw9_WordTells.f (K : Nat) (a5 : Int) (a6 : Int) (a7 : Int) (a8 : Int) : Option Bool := b1 (confidantlaw9_known.f K) fun (t254 : Bool) => (if t254 = true then (lt ([a5, a6, 0, 1, (-1), 2147483647, (-2147483648), 46341, 7] : List Int) fun l260 => (if 0 ≤ (Int.tmod (IntKind.i64.wrap a7) 9) then (if (Int.tmod (IntKind.i64.wrap a7) 9) < (l260.length : Int) then (if 0 ≤ (Int.tmod (IntKind.i64.wrap a8) 9) then (if (Int.tmod (IntKind.i64.wrap a8) 9) < (l260.length : Int) then (b2 (word_Div.f K (l260.getD (Int.tmod (IntKind.i64.wrap a7) 9).toNat 0) (l260.getD (Int.tmod (IntKind.i64.wrap a8) 9).toNat 0)) fun (t272 : Int) (t273 : Bool) => (b2 (confidantref9_Div.f K (l260.getD (Int.tmod (IntKind.i64.wrap a7) 9).toNat 0) (l260.getD (Int.tmod (IntKind.i64.wrap a8) 9).toNat 0)) fun (t278 : Int) (t279 : Bool) => (b1 (word_Add.f K (l260.getD (Int.tmod (IntKind.i64.wrap a7) 9).toNat 0) (l260.getD (Int.tmod (IntKind.i64.wrap a8) 9).toNat 0)) fun (t281 : Int) => (if t281 = (IntKind.i32.wrap (IntKind.u32.wrap (IntKind.i64.wrap ((IntKind.i64.wrap (l260.getD (Int.tmod (IntKind.i64.wrap a7) 9).toNat 0)) + (IntKind.i64.wrap (l260.getD (Int.tmod (IntKind.i64.wrap a8) 9).toNat 0)))))) then (b1 (word_Sub.f K (l260.getD (Int.tmod (IntKind.i64.wrap a7) 9).toNat 0) (l260.getD (Int.tmod (IntKind.i64.wrap a8) 9).toNat 0)) fun (t284 : Int) => (if t284 = (IntKind.i32.wrap (IntKind.u32.wrap (IntKind.i64.wrap ((IntKind.i64.wrap (l260.getD (Int.tmod (IntKind.i64.wrap a7) 9).toNat 0)) - (IntKind.i64.wrap (l260.getD (Int.tmod (IntKind.i64.wrap a8) 9).toNat 0)))))) then (b1 (word_Mul.f K (l260.getD (Int.tmod (IntKind.i64.wrap a7) 9).toNat 0) (l260.getD (Int.tmod (IntKind.i64.wrap a8) 9).toNat 0)) fun (t287 : Int) => (if t287 = (IntKind.i32.wrap (IntKind.u32.wrap (IntKind.u64.wrap (IntKind.i64.wrap ((IntKind.i64.wrap (l260.getD (Int.tmod (IntKind.i64.wrap a7) 9).toNat 0)) * (IntKind.i64.wrap (l260.getD (Int.tmod (IntKind.i64.wrap a8) 9).toNat 0))))))) then (if t272 = t278 then (if (t273 == t279) = true then (b1 (word_Less.f K (l260.getD (Int.tmod (IntKind.i64.wrap a7) 9).toNat 0) (l260.getD (Int.tmod (IntKind.i64.wrap a8) 9).toNat 0)) fun (t292 : Int) => (b1 (confidantref9_Truth.f K (decide ((l260.getD (Int.tmod (IntKind.i64.wrap a7) 9).toNat 0) < (l260.getD (Int.tmod (IntKind.i64.wrap a8) 9).toNat 0)))) fun (t294 : Int) => (if t292 = t294 then (b1 (word_Eq.f K (l260.getD (Int.tmod (IntKind.i64.wrap a7) 9).toNat 0) (l260.getD (Int.tmod (IntKind.i64.wrap a8) 9).toNat 0)) fun (t297 : Int) => (b1 (confidantref9_Truth.f K (decide ((l260.getD (Int.tmod (IntKind.i64.wrap a7) 9).toNat 0) = (l260.getD (Int.tmod (IntKind.i64.wrap a8) 9).toNat 0)))) fun (t299 : Int) => (some (decide (t297 = t299))))) else (some false)))) else (some false)) else (some false)) else (some false))) else (some false))) else (some false))))) else none) else none) else none) else none)) else (some false))
set_option maxRecDepth 100000 in
theorem confidantlaw9_WordTells.calls {K : Nat} {a5 : Int} {a6 : Int} {a7 : Int} {a8 : Int} {x246 : Bool} {B w : World} {os : List Ass} {rs : List Ro} (H : confidantlaw9_WordTells.f K a5 a6 a7 a8 = some x246) (hS : St B w (os) (rs)) :
    Calls Try.prog 9 [.int .i32 a5, .int .i32 a6, .int .u8 a7, .int .u8 a8].toArray w (fun en w' => ∃ v, en = .returned v ∧ v = .bool (x246) ∧ St B w' (os) (rs)) := by
  unfold confidantlaw9_WordTells.f at H
  refine calls_of_EW (args := [.int .i32 a5, .int .i32 a6, .int .u8 a7, .int .u8 a8]) (c := C9) 113 Try.func9 (by kernel_rfl) (by kernel_rfl) (by kernel_rfl) ?_
  refine EW.seq (x := C9.l) (y := C9.r) (by kernel_rfl) ?_
  refine EW.region (id := 0) (ops := C9.l.ops) (by kernel_rfl) ?_
  refine EL.quick 1 [0, 1, 2, 3] [(0, .int .i32 a5), (1, .int .i32 a6), (2, .int .u8 a7), (3, .int .u8 a8)] (by kernel_rfl) ?_
  refine EL.done (by kernel_rfl) ?_
  refine EQ.code ?_
  refine EW.seq (x := C9.r.l) (y := C9.r.r) (by kernel_rfl) ?_
  refine EW.seq (x := C9.r.l.l) (y := C9.r.l.r) (by kernel_rfl) ?_
  refine EW.region (id := 1) (ops := C9.r.l.l.ops) (by kernel_rfl) ?_
  obtain ⟨t254, hc255, H⟩ := b1_out H
  refine EL.of (EO.callD 29 [] _ 16 (by kernel_rfl) (by kernel_rfl) (by kernel_rfl) (confidantlaw9_known.calls hc255 hS) ?_)
  rintro v w ⟨rfl, hS⟩
  refine EL.quick 1 [0, 1, 2, 3, 17] [(0, .int .i32 a5), (1, .int .i32 a6), (2, .int .u8 a7), (3, .int .u8 a8), (17, .bool (!(t254)))] (by kernel_rfl) ?_
  refine EL.done (by kernel_rfl) ?_
  refine EQ.code ?_
  refine EW.condQ (b := !(t254)) (o := (.tmp 17)) (x := C9.r.l.r.l) (y := C9.r.l.r.r) (t254 = true) (false) (by kernel_rfl) (by kernel_rfl) (by constructor <;> intro h <;> simp [h]) (fun h256 => ?_) (fun h256 => ?_)
  · rw [if_pos h256] at H
    refine EW.skip (by kernel_rfl) ?_
    refine EQ.code ?_
    refine EW.seq (x := C9.r.r.l) (y := C9.r.r.r) (by kernel_rfl) ?_
    refine EW.region (id := 3) (ops := C9.r.r.l.ops) (by kernel_rfl) ?_
    refine EL.quick 2 [2, 3, 18, 19] [(2, .int .u8 a7), (3, .int .u8 a8), (18, .int .i32 a5), (19, .int .i32 a6)] (by kernel_rfl) ?_
    obtain ⟨l260, hl260, H⟩ := lt_out H
    refine EL.of (EO.lit hS (Kd.int .i32) 21 40 9 #[(0, .int .i32 a5), (1, .int .i32 a6), (2, .int .i32 0), (3, .int .i32 1), (4, .int .i32 (-1)), (5, .int .i32 2147483647), (6, .int .i32 (-2147483648)), (7, .int .i32 46341), (8, .int .i32 7)] [.int .i32 a5, .int .i32 a6, .int .i32 0, .int .i32 1, .int .i32 (-1), .int .i32 2147483647, .int .i32 (-2147483648), .int .i32 46341, .int .i32 7] l260 20 (by kernel_rfl) (by kernel_rfl) (by kernel_rfl) (fun _ => (by kernel_rfl)) (by rw [hl260]; rfl) (by kernel_rfl) (fun w G hr => (by rw [hl260]; exact ⟨[.int .i32 a5], [.int .i32 a6, .int .i32 0, .int .i32 1, .int .i32 (-1), .int .i32 2147483647, .int .i32 (-2147483648), .int .i32 46341, .int .i32 7], rfl, rfl, ⟨[.int .i32 a6], [.int .i32 0, .int .i32 1, .int .i32 (-1), .int .i32 2147483647, .int .i32 (-2147483648), .int .i32 46341, .int .i32 7], rfl, rfl, ⟨[.int .i32 0], [.int .i32 1, .int .i32 (-1), .int .i32 2147483647, .int .i32 (-2147483648), .int .i32 46341, .int .i32 7], rfl, rfl, ⟨[.int .i32 1], [.int .i32 (-1), .int .i32 2147483647, .int .i32 (-2147483648), .int .i32 46341, .int .i32 7], rfl, rfl, ⟨[.int .i32 (-1)], [.int .i32 2147483647, .int .i32 (-2147483648), .int .i32 46341, .int .i32 7], rfl, rfl, ⟨[.int .i32 2147483647], [.int .i32 (-2147483648), .int .i32 46341, .int .i32 7], rfl, rfl, ⟨[.int .i32 (-2147483648)], [.int .i32 46341, .int .i32 7], rfl, rfl, ⟨[.int .i32 46341], [.int .i32 7], rfl, rfl, ⟨[.int .i32 7], [], rfl, rfl, rfl⟩⟩⟩⟩⟩⟩⟩⟩⟩)) ?_)
    intro g259 w hS
    refine EL.quick 1 [2, 3, 9] [(2, .int .u8 a7), (3, .int .u8 a8), (9, .slice (some ⟨g259, 0, none⟩) l260.length 9)] (by kernel_rfl) ?_
    refine EL.done (by kernel_rfl) ?_
    refine EQ.code ?_
    refine EW.seq (x := C9.r.r.r.l) (y := C9.r.r.r.r) (by kernel_rfl) ?_
    obtain ⟨h265, H⟩ := ite_in H
    obtain ⟨h266, H⟩ := ite_in H
    obtain ⟨h267, H⟩ := ite_in H
    obtain ⟨h268, H⟩ := ite_in H
    have hS := hS.drew
    refine EW.draw (B := B) (id := 4) (ops := C9.r.r.r.l.ops) [Ass.own 21 (Kd.int .i32) (some ⟨g259, 0, none⟩) 9 l260] [] (by kernel_rfl) (by kernel_rfl) ?_
    have hN : Region.noSelect C9.r.r.r.l.ops = true := (by kernel_rfl)
    have hF : freeAll C9.r.r.r.l.ops = true := (by kernel_rfl)
    have hC : Core B [Ass.own 21 (Kd.int .i32) (some ⟨g259, 0, none⟩) 9 l260] [] _ := ⟨_, _, hS⟩
    refine ED.quick hN hF hC [0, 1, 2, 3, 6, 7, 8, 9] [21, 24, 27, 30] 6 [(21, .slice (some ⟨g259, 0, none⟩) l260.length 9), (24, .int .i64 (Int.tmod (IntKind.i64.wrap a7) 9)), (27, .slice (some ⟨g259, 0, none⟩) l260.length 9), (30, .int .i64 (Int.tmod (IntKind.i64.wrap a8) 9))] #[true, true, true, true, false, false, true, true, true, true, false, false, false, false] (by kernel_rfl) (by kernel_rfl) ?_
    refine ED.Y hN hF hC 4 5 #[true, true, true, true, true, false, true, true, true, true, false, false, false, false] (by kernel_rfl) (by kernel_rfl) rfl (fun _ _ _ hS => YO.idx 40 1 ⟨g259, 0, none⟩ l260.length 9 .i64 (Int.tmod (IntKind.i64.wrap a7) 9) 25 (by kernel_rfl) (by kernel_rfl) (by kernel_rfl) (by kernel_rfl) h265 h266) ?_
    refine ED.Y hN hF hC 5 4 #[true, true, true, true, true, true, true, true, true, true, false, false, false, false] (by kernel_rfl) (by kernel_rfl) rfl (fun _ _ _ hS => YO.loadEl hS (Kd.int .i32) ⟨g259, 0, none⟩ 9 l260 (Rd.own 0 21 rfl) 0 (encI .i32) encI_of (Int.tmod (IntKind.i64.wrap a7) 9) h265 h266 21 1 0 1 rfl (.int .i32 (l260.getD (Int.tmod (IntKind.i64.wrap a7) 9).toNat 0)) 26 (by kernel_rfl) (by kernel_rfl) (by kernel_rfl) (by kernel_rfl)) ?_
    refine ED.quick hN hF hC [12] [10, 27, 30] 3 [(10, .int .i32 (l260.getD (Int.tmod (IntKind.i64.wrap a7) 9).toNat 0)), (27, .slice (some ⟨g259, 0, none⟩) l260.length 9), (30, .int .i64 (Int.tmod (IntKind.i64.wrap a8) 9))] #[true, true, true, true, true, true, true, true, true, true, false, false, true, false] (by kernel_rfl) (by kernel_rfl) ?_
    refine ED.Y hN hF hC 10 2 #[true, true, true, true, true, true, true, true, true, true, true, false, true, false] (by kernel_rfl) (by kernel_rfl) rfl (fun _ _ _ hS => YO.idx 40 1 ⟨g259, 0, none⟩ l260.length 9 .i64 (Int.tmod (IntKind.i64.wrap a8) 9) 31 (by kernel_rfl) (by kernel_rfl) (by kernel_rfl) (by kernel_rfl) h267 h268) ?_
    refine ED.Y hN hF hC 11 1 #[true, true, true, true, true, true, true, true, true, true, true, true, true, false] (by kernel_rfl) (by kernel_rfl) rfl (fun _ _ _ hS => YO.loadEl hS (Kd.int .i32) ⟨g259, 0, none⟩ 9 l260 (Rd.own 0 21 rfl) 0 (encI .i32) encI_of (Int.tmod (IntKind.i64.wrap a8) 9) h267 h268 21 1 0 1 rfl (.int .i32 (l260.getD (Int.tmod (IntKind.i64.wrap a8) 9).toNat 0)) 32 (by kernel_rfl) (by kernel_rfl) (by kernel_rfl) (by kernel_rfl)) ?_
    refine ED.quick hN hF hC [13] [10, 11] 0 [(10, .int .i32 (l260.getD (Int.tmod (IntKind.i64.wrap a7) 9).toNat 0)), (11, .int .i32 (l260.getD (Int.tmod (IntKind.i64.wrap a8) 9).toNat 0))] #[true, true, true, true, true, true, true, true, true, true, true, true, true, true] (by kernel_rfl) (by kernel_rfl) ?_
    refine ED.done (by kernel_rfl) ?_
    refine EQ.code ?_
    refine EW.seq (x := C9.r.r.r.r.l) (y := C9.r.r.r.r.r) (by kernel_rfl) ?_
    refine EW.region (id := 5) (ops := C9.r.r.r.r.l.ops) (by kernel_rfl) ?_
    refine EL.quick 2 [10, 11, 34, 35] [(10, .int .i32 (l260.getD (Int.tmod (IntKind.i64.wrap a7) 9).toNat 0)), (11, .int .i32 (l260.getD (Int.tmod (IntKind.i64.wrap a8) 9).toNat 0)), (34, .int .i32 (l260.getD (Int.tmod (IntKind.i64.wrap a7) 9).toNat 0)), (35, .int .i32 (l260.getD (Int.tmod (IntKind.i64.wrap a8) 9).toNat 0))] (by kernel_rfl) ?_
    obtain ⟨t272, t273, hc274, H⟩ := b2_out H
    refine EL.of (EO.callD 30 [.int .i32 (l260.getD (Int.tmod (IntKind.i64.wrap a7) 9).toNat 0), .int .i32 (l260.getD (Int.tmod (IntKind.i64.wrap a8) 9).toNat 0)] _ 36 (by kernel_rfl) (by kernel_rfl) (by kernel_rfl) (word_Div.calls hc274 hS) ?_)
    rintro v w ⟨rfl, hS⟩
    refine EL.quick 5 [10, 11, 12, 13] [(10, .int .i32 (l260.getD (Int.tmod (IntKind.i64.wrap a7) 9).toNat 0)), (11, .int .i32 (l260.getD (Int.tmod (IntKind.i64.wrap a8) 9).toNat 0)), (12, .int .i32 t272), (13, .bool (t273))] (by kernel_rfl) ?_
    refine EL.done (by kernel_rfl) ?_
    refine EQ.code ?_
    refine EW.seq (x := C9.r.r.r.r.r.l) (y := C9.r.r.r.r.r.r) (by kernel_rfl) ?_
    refine EW.region (id := 6) (ops := C9.r.r.r.r.r.l.ops) (by kernel_rfl) ?_
    refine EL.quick 2 [10, 11, 12, 13, 40, 41] [(10, .int .i32 (l260.getD (Int.tmod (IntKind.i64.wrap a7) 9).toNat 0)), (11, .int .i32 (l260.getD (Int.tmod (IntKind.i64.wrap a8) 9).toNat 0)), (12, .int .i32 t272), (13, .bool (t273)), (40, .int .i32 (l260.getD (Int.tmod (IntKind.i64.wrap a7) 9).toNat 0)), (41, .int .i32 (l260.getD (Int.tmod (IntKind.i64.wrap a8) 9).toNat 0))] (by kernel_rfl) ?_
    obtain ⟨t278, t279, hc280, H⟩ := b2_out H
    refine EL.of (EO.callD 31 [.int .i32 (l260.getD (Int.tmod (IntKind.i64.wrap a7) 9).toNat 0), .int .i32 (l260.getD (Int.tmod (IntKind.i64.wrap a8) 9).toNat 0)] _ 42 (by kernel_rfl) (by kernel_rfl) (by kernel_rfl) (confidantref9_Div.calls hc280 hS) ?_)
    rintro v w ⟨rfl, hS⟩
    refine EL.quick 5 [10, 11, 12, 13, 14, 15] [(10, .int .i32 (l260.getD (Int.tmod (IntKind.i64.wrap a7) 9).toNat 0)), (11, .int .i32 (l260.getD (Int.tmod (IntKind.i64.wrap a8) 9).toNat 0)), (12, .int .i32 t272), (13, .bool (t273)), (14, .int .i32 t278), (15, .bool (t279))] (by kernel_rfl) ?_
    refine EL.done (by kernel_rfl) ?_
    refine EQ.code ?_
    refine EW.seq (x := C9.r.r.r.r.r.r.l) (y := C9.r.r.r.r.r.r.r) (by kernel_rfl) ?_
    refine EW.region (id := 7) (ops := C9.r.r.r.r.r.r.l.ops) (by kernel_rfl) ?_
    refine EL.quick 2 [10, 11, 12, 13, 14, 15, 45, 46] [(10, .int .i32 (l260.getD (Int.tmod (IntKind.i64.wrap a7) 9).toNat 0)), (11, .int .i32 (l260.getD (Int.tmod (IntKind.i64.wrap a8) 9).toNat 0)), (12, .int .i32 t272), (13, .bool (t273)), (14, .int .i32 t278), (15, .bool (t279)), (45, .int .i32 (l260.getD (Int.tmod (IntKind.i64.wrap a7) 9).toNat 0)), (46, .int .i32 (l260.getD (Int.tmod (IntKind.i64.wrap a8) 9).toNat 0))] (by kernel_rfl) ?_
    obtain ⟨t281, hc282, H⟩ := b1_out H
    refine EL.of (EO.callD 32 [.int .i32 (l260.getD (Int.tmod (IntKind.i64.wrap a7) 9).toNat 0), .int .i32 (l260.getD (Int.tmod (IntKind.i64.wrap a8) 9).toNat 0)] _ 47 (by kernel_rfl) (by kernel_rfl) (by kernel_rfl) (word_Add.calls hc282 hS) ?_)
    rintro v w ⟨rfl, hS⟩
    refine EL.quick 9 [10, 11, 12, 13, 14, 15, 56] [(10, .int .i32 (l260.getD (Int.tmod (IntKind.i64.wrap a7) 9).toNat 0)), (11, .int .i32 (l260.getD (Int.tmod (IntKind.i64.wrap a8) 9).toNat 0)), (12, .int .i32 t272), (13, .bool (t273)), (14, .int .i32 t278), (15, .bool (t279)), (56, .bool (decide (t281 = (IntKind.i32.wrap (IntKind.u32.wrap (IntKind.i64.wrap ((IntKind.i64.wrap (l260.getD (Int.tmod (IntKind.i64.wrap a7) 9).toNat 0)) + (IntKind.i64.wrap (l260.getD (Int.tmod (IntKind.i64.wrap a8) 9).toNat 0)))))))))] (by kernel_rfl) ?_
    by_cases h283 : t281 = (IntKind.i32.wrap (IntKind.u32.wrap (IntKind.i64.wrap ((IntKind.i64.wrap (l260.getD (Int.tmod (IntKind.i64.wrap a7) 9).toNat 0)) + (IntKind.i64.wrap (l260.getD (Int.tmod (IntKind.i64.wrap a8) 9).toNat 0))))))
    · rw [if_pos h283] at H
      refine EL.keep [10, 11, 12, 13, 14, 15, 56] [(10, .int .i32 (l260.getD (Int.tmod (IntKind.i64.wrap a7) 9).toNat 0)), (11, .int .i32 (l260.getD (Int.tmod (IntKind.i64.wrap a8) 9).toNat 0)), (12, .int .i32 t272), (13, .bool (t273)), (14, .int .i32 t278), (15, .bool (t279)), (56, .bool (decide (t281 = (IntKind.i32.wrap (IntKind.u32.wrap (IntKind.i64.wrap ((IntKind.i64.wrap (l260.getD (Int.tmod (IntKind.i64.wrap a7) 9).toNat 0)) + (IntKind.i64.wrap (l260.getD (Int.tmod (IntKind.i64.wrap a8) 9).toNat 0)))))))))] (by kernel_rfl) ?_
      refine EL.as' [(10, .int .i32 (l260.getD (Int.tmod (IntKind.i64.wrap a7) 9).toNat 0)), (11, .int .i32 (l260.getD (Int.tmod (IntKind.i64.wrap a8) 9).toNat 0)), (12, .int .i32 t272), (13, .bool (t273)), (14, .int .i32 t278), (15, .bool (t279)), (56, .bool (true))] (by simp only [dec_t h283, Bool.not_true, Bool.not_false]) ?_
      refine EL.quick 2 [10, 11, 12, 13, 14, 15, 56, 57, 58] [(10, .int .i32 (l260.getD (Int.tmod (IntKind.i64.wrap a7) 9).toNat 0)), (11, .int .i32 (l260.getD (Int.tmod (IntKind.i64.wrap a8) 9).toNat 0)), (12, .int .i32 t272), (13, .bool (t273)), (14, .int .i32 t278), (15, .bool (t279)), (56, .bool (true)), (57, .int .i32 (l260.getD (Int.tmod (IntKind.i64.wrap a7) 9).toNat 0)), (58, .int .i32 (l260.getD (Int.tmod (IntKind.i64.wrap a8) 9).toNat 0))] (by kernel_rfl) ?_
      obtain ⟨t284, hc285, H⟩ := b1_out H
      refine EL.of (EO.callD 33 [.int .i32 (l260.getD (Int.tmod (IntKind.i64.wrap a7) 9).toNat 0), .int .i32 (l260.getD (Int.tmod (IntKind.i64.wrap a8) 9).toNat 0)] _ 59 (by kernel_rfl) (by kernel_rfl) (by kernel_rfl) (word_Sub.calls hc285 hS) ?_)
      rintro v w ⟨rfl, hS⟩
      refine EL.quick 10 [10, 11, 12, 13, 14, 15, 69] [(10, .int .i32 (l260.getD (Int.tmod (IntKind.i64.wrap a7) 9).toNat 0)), (11, .int .i32 (l260.getD (Int.tmod (IntKind.i64.wrap a8) 9).toNat 0)), (12, .int .i32 t272), (13, .bool (t273)), (14, .int .i32 t278), (15, .bool (t279)), (69, .bool (decide (t284 = (IntKind.i32.wrap (IntKind.u32.wrap (IntKind.i64.wrap ((IntKind.i64.wrap (l260.getD (Int.tmod (IntKind.i64.wrap a7) 9).toNat 0)) - (IntKind.i64.wrap (l260.getD (Int.tmod (IntKind.i64.wrap a8) 9).toNat 0)))))))))] (by kernel_rfl) ?_
      by_cases h286 : t284 = (IntKind.i32.wrap (IntKind.u32.wrap (IntKind.i64.wrap ((IntKind.i64.wrap (l260.getD (Int.tmod (IntKind.i64.wrap a7) 9).toNat 0)) - (IntKind.i64.wrap (l260.getD (Int.tmod (IntKind.i64.wrap a8) 9).toNat 0))))))
      · rw [if_pos h286] at H
        refine EL.keep [10, 11, 12, 13, 14, 15, 69] [(10, .int .i32 (l260.getD (Int.tmod (IntKind.i64.wrap a7) 9).toNat 0)), (11, .int .i32 (l260.getD (Int.tmod (IntKind.i64.wrap a8) 9).toNat 0)), (12, .int .i32 t272), (13, .bool (t273)), (14, .int .i32 t278), (15, .bool (t279)), (69, .bool (decide (t284 = (IntKind.i32.wrap (IntKind.u32.wrap (IntKind.i64.wrap ((IntKind.i64.wrap (l260.getD (Int.tmod (IntKind.i64.wrap a7) 9).toNat 0)) - (IntKind.i64.wrap (l260.getD (Int.tmod (IntKind.i64.wrap a8) 9).toNat 0)))))))))] (by kernel_rfl) ?_
        refine EL.as' [(10, .int .i32 (l260.getD (Int.tmod (IntKind.i64.wrap a7) 9).toNat 0)), (11, .int .i32 (l260.getD (Int.tmod (IntKind.i64.wrap a8) 9).toNat 0)), (12, .int .i32 t272), (13, .bool (t273)), (14, .int .i32 t278), (15, .bool (t279)), (69, .bool (true))] (by simp only [dec_t h286, Bool.not_true, Bool.not_false]) ?_
        refine EL.quick 2 [10, 11, 12, 13, 14, 15, 69, 70, 71] [(10, .int .i32 (l260.getD (Int.tmod (IntKind.i64.wrap a7) 9).toNat 0)), (11, .int .i32 (l260.getD (Int.tmod (IntKind.i64.wrap a8) 9).toNat 0)), (12, .int .i32 t272), (13, .bool (t273)), (14, .int .i32 t278), (15, .bool (t279)), (69, .bool (true)), (70, .int .i32 (l260.getD (Int.tmod (IntKind.i64.wrap a7) 9).toNat 0)), (71, .int .i32 (l260.getD (Int.tmod (IntKind.i64.wrap a8) 9).toNat 0))] (by kernel_rfl) ?_
        obtain ⟨t287, hc288, H⟩ := b1_out H
        refine EL.of (EO.callD 34 [.int .i32 (l260.getD (Int.tmod (IntKind.i64.wrap a7) 9).toNat 0), .int .i32 (l260.getD (Int.tmod (IntKind.i64.wrap a8) 9).toNat 0)] _ 72 (by kernel_rfl) (by kernel_rfl) (by kernel_rfl) (word_Mul.calls hc288 hS) ?_)
        rintro v w ⟨rfl, hS⟩
        refine EL.quick 11 [10, 11, 12, 13, 14, 15, 83] [(10, .int .i32 (l260.getD (Int.tmod (IntKind.i64.wrap a7) 9).toNat 0)), (11, .int .i32 (l260.getD (Int.tmod (IntKind.i64.wrap a8) 9).toNat 0)), (12, .int .i32 t272), (13, .bool (t273)), (14, .int .i32 t278), (15, .bool (t279)), (83, .bool (decide (t287 = (IntKind.i32.wrap (IntKind.u32.wrap (IntKind.u64.wrap (IntKind.i64.wrap ((IntKind.i64.wrap (l260.getD (Int.tmod (IntKind.i64.wrap a7) 9).toNat 0)) * (IntKind.i64.wrap (l260.getD (Int.tmod (IntKind.i64.wrap a8) 9).toNat 0))))))))))] (by kernel_rfl) ?_
        by_cases h289 : t287 = (IntKind.i32.wrap (IntKind.u32.wrap (IntKind.u64.wrap (IntKind.i64.wrap ((IntKind.i64.wrap (l260.getD (Int.tmod (IntKind.i64.wrap a7) 9).toNat 0)) * (IntKind.i64.wrap (l260.getD (Int.tmod (IntKind.i64.wrap a8) 9).toNat 0)))))))
        · rw [if_pos h289] at H
          refine EL.keep [10, 11, 12, 13, 14, 15, 83] [(10, .int .i32 (l260.getD (Int.tmod (IntKind.i64.wrap a7) 9).toNat 0)), (11, .int .i32 (l260.getD (Int.tmod (IntKind.i64.wrap a8) 9).toNat 0)), (12, .int .i32 t272), (13, .bool (t273)), (14, .int .i32 t278), (15, .bool (t279)), (83, .bool (decide (t287 = (IntKind.i32.wrap (IntKind.u32.wrap (IntKind.u64.wrap (IntKind.i64.wrap ((IntKind.i64.wrap (l260.getD (Int.tmod (IntKind.i64.wrap a7) 9).toNat 0)) * (IntKind.i64.wrap (l260.getD (Int.tmod (IntKind.i64.wrap a8) 9).toNat 0))))))))))] (by kernel_rfl) ?_
          refine EL.as' [(10, .int .i32 (l260.getD (Int.tmod (IntKind.i64.wrap a7) 9).toNat 0)), (11, .int .i32 (l260.getD (Int.tmod (IntKind.i64.wrap a8) 9).toNat 0)), (12, .int .i32 t272), (13, .bool (t273)), (14, .int .i32 t278), (15, .bool (t279)), (83, .bool (true))] (by simp only [dec_t h289, Bool.not_true, Bool.not_false]) ?_
          refine EL.quick 5 [10, 11, 13, 15, 88] [(10, .int .i32 (l260.getD (Int.tmod (IntKind.i64.wrap a7) 9).toNat 0)), (11, .int .i32 (l260.getD (Int.tmod (IntKind.i64.wrap a8) 9).toNat 0)), (13, .bool (t273)), (15, .bool (t279)), (88, .bool (decide (t272 = t278)))] (by kernel_rfl) ?_
          by_cases h290 : t272 = t278
          · rw [if_pos h290] at H
            refine EL.keep [10, 11, 13, 15, 88] [(10, .int .i32 (l260.getD (Int.tmod (IntKind.i64.wrap a7) 9).toNat 0)), (11, .int .i32 (l260.getD (Int.tmod (IntKind.i64.wrap a8) 9).toNat 0)), (13, .bool (t273)), (15, .bool (t279)), (88, .bool (decide (t272 = t278)))] (by kernel_rfl) ?_
            refine EL.as' [(10, .int .i32 (l260.getD (Int.tmod (IntKind.i64.wrap a7) 9).toNat 0)), (11, .int .i32 (l260.getD (Int.tmod (IntKind.i64.wrap a8) 9).toNat 0)), (13, .bool (t273)), (15, .bool (t279)), (88, .bool (true))] (by simp only [dec_t h290, Bool.not_true, Bool.not_false]) ?_
            refine EL.quick 5 [10, 11, 93] [(10, .int .i32 (l260.getD (Int.tmod (IntKind.i64.wrap a7) 9).toNat 0)), (11, .int .i32 (l260.getD (Int.tmod (IntKind.i64.wrap a8) 9).toNat 0)), (93, .bool ((t273 == t279)))] (by kernel_rfl) ?_
            by_cases h291 : (t273 == t279) = true
            · rw [if_pos h291] at H
              refine EL.keep [10, 11, 93] [(10, .int .i32 (l260.getD (Int.tmod (IntKind.i64.wrap a7) 9).toNat 0)), (11, .int .i32 (l260.getD (Int.tmod (IntKind.i64.wrap a8) 9).toNat 0)), (93, .bool ((t273 == t279)))] (by kernel_rfl) ?_
              refine EL.as' [(10, .int .i32 (l260.getD (Int.tmod (IntKind.i64.wrap a7) 9).toNat 0)), (11, .int .i32 (l260.getD (Int.tmod (IntKind.i64.wrap a8) 9).toNat 0)), (93, .bool (true))] (by simp only [h291, Bool.not_true, Bool.not_false]) ?_
              refine EL.quick 2 [10, 11, 93, 94, 95] [(10, .int .i32 (l260.getD (Int.tmod (IntKind.i64.wrap a7) 9).toNat 0)), (11, .int .i32 (l260.getD (Int.tmod (IntKind.i64.wrap a8) 9).toNat 0)), (93, .bool (true)), (94, .int .i32 (l260.getD (Int.tmod (IntKind.i64.wrap a7) 9).toNat 0)), (95, .int .i32 (l260.getD (Int.tmod (IntKind.i64.wrap a8) 9).toNat 0))] (by kernel_rfl) ?_
              obtain ⟨t292, hc293, H⟩ := b1_out H
              refine EL.of (EO.callD 35 [.int .i32 (l260.getD (Int.tmod (IntKind.i64.wrap a7) 9).toNat 0), .int .i32 (l260.getD (Int.tmod (IntKind.i64.wrap a8) 9).toNat 0)] _ 96 (by kernel_rfl) (by kernel_rfl) (by kernel_rfl) (word_Less.calls hc293 hS) ?_)
              rintro v w ⟨rfl, hS⟩
              refine EL.quick 3 [10, 11, 93, 96, 99] [(10, .int .i32 (l260.getD (Int.tmod (IntKind.i64.wrap a7) 9).toNat 0)), (11, .int .i32 (l260.getD (Int.tmod (IntKind.i64.wrap a8) 9).toNat 0)), (93, .bool (true)), (96, .int .i32 t292), (99, .bool (decide ((l260.getD (Int.tmod (IntKind.i64.wrap a7) 9).toNat 0) < (l260.getD (Int.tmod (IntKind.i64.wrap a8) 9).toNat 0))))] (by kernel_rfl) ?_
              obtain ⟨t294, hc295, H⟩ := b1_out H
              refine EL.of (EO.callD 36 [.bool (decide ((l260.getD (Int.tmod (IntKind.i64.wrap a7) 9).toNat 0) < (l260.getD (Int.tmod (IntKind.i64.wrap a8) 9).toNat 0)))] _ 100 (by kernel_rfl) (by kernel_rfl) (by kernel_rfl) (confidantref9_Truth.calls hc295 hS) ?_)
              rintro v w ⟨rfl, hS⟩
              refine EL.quick 3 [10, 11, 103] [(10, .int .i32 (l260.getD (Int.tmod (IntKind.i64.wrap a7) 9).toNat 0)), (11, .int .i32 (l260.getD (Int.tmod (IntKind.i64.wrap a8) 9).toNat 0)), (103, .bool (decide (t292 = t294)))] (by kernel_rfl) ?_
              by_cases h296 : t292 = t294
              · rw [if_pos h296] at H
                refine EL.keep [10, 11, 103] [(10, .int .i32 (l260.getD (Int.tmod (IntKind.i64.wrap a7) 9).toNat 0)), (11, .int .i32 (l260.getD (Int.tmod (IntKind.i64.wrap a8) 9).toNat 0)), (103, .bool (decide (t292 = t294)))] (by kernel_rfl) ?_
                refine EL.as' [(10, .int .i32 (l260.getD (Int.tmod (IntKind.i64.wrap a7) 9).toNat 0)), (11, .int .i32 (l260.getD (Int.tmod (IntKind.i64.wrap a8) 9).toNat 0)), (103, .bool (true))] (by simp only [dec_t h296, Bool.not_true, Bool.not_false]) ?_
                refine EL.quick 2 [10, 11, 103, 104, 105] [(10, .int .i32 (l260.getD (Int.tmod (IntKind.i64.wrap a7) 9).toNat 0)), (11, .int .i32 (l260.getD (Int.tmod (IntKind.i64.wrap a8) 9).toNat 0)), (103, .bool (true)), (104, .int .i32 (l260.getD (Int.tmod (IntKind.i64.wrap a7) 9).toNat 0)), (105, .int .i32 (l260.getD (Int.tmod (IntKind.i64.wrap a8) 9).toNat 0))] (by kernel_rfl) ?_
                obtain ⟨t297, hc298, H⟩ := b1_out H
                refine EL.of (EO.callD 37 [.int .i32 (l260.getD (Int.tmod (IntKind.i64.wrap a7) 9).toNat 0), .int .i32 (l260.getD (Int.tmod (IntKind.i64.wrap a8) 9).toNat 0)] _ 106 (by kernel_rfl) (by kernel_rfl) (by kernel_rfl) (word_Eq.calls hc298 hS) ?_)
                rintro v w ⟨rfl, hS⟩
                refine EL.quick 3 [103, 106, 109] [(103, .bool (true)), (106, .int .i32 t297), (109, .bool (decide ((l260.getD (Int.tmod (IntKind.i64.wrap a7) 9).toNat 0) = (l260.getD (Int.tmod (IntKind.i64.wrap a8) 9).toNat 0))))] (by kernel_rfl) ?_
                obtain ⟨t299, hc300, H⟩ := b1_out H
                refine EL.of (EO.callD 36 [.bool (decide ((l260.getD (Int.tmod (IntKind.i64.wrap a7) 9).toNat 0) = (l260.getD (Int.tmod (IntKind.i64.wrap a8) 9).toNat 0)))] _ 110 (by kernel_rfl) (by kernel_rfl) (by kernel_rfl) (confidantref9_Truth.calls hc300 hS) ?_)
                rintro v w ⟨rfl, hS⟩
                refine EL.quick 3 [8] [(8, .bool (decide (t297 = t299)))] (by kernel_rfl) ?_
                refine EL.done (by kernel_rfl) ?_
                refine EQ.code ?_
                refine EW.ret (by kernel_rfl) ?_
                obtain rfl := Option.some.inj H
                exact EQ.leave (.bool (decide (t297 = t299))) (by kernel_rfl) ⟨_, rfl, rfl, (hS.re [] [0] rfl (sub_self))⟩
              · rw [if_neg h296] at H
                refine EL.keep [10, 11, 103] [(10, .int .i32 (l260.getD (Int.tmod (IntKind.i64.wrap a7) 9).toNat 0)), (11, .int .i32 (l260.getD (Int.tmod (IntKind.i64.wrap a8) 9).toNat 0)), (103, .bool (decide (t292 = t294)))] (by kernel_rfl) ?_
                refine EL.as' [(10, .int .i32 (l260.getD (Int.tmod (IntKind.i64.wrap a7) 9).toNat 0)), (11, .int .i32 (l260.getD (Int.tmod (IntKind.i64.wrap a8) 9).toNat 0)), (103, .bool (false))] (by simp only [dec_f h296, Bool.not_true, Bool.not_false]) ?_
                refine EL.quick 10 [8] [(8, .bool (false))] (by kernel_rfl) ?_
                refine EL.done (by kernel_rfl) ?_
                refine EQ.code ?_
                refine EW.ret (by kernel_rfl) ?_
                obtain rfl := Option.some.inj H
                exact EQ.leave (.bool (false)) (by kernel_rfl) ⟨_, rfl, rfl, (hS.re [] [0] rfl (sub_self))⟩
            · rw [if_neg h291] at H
              refine EL.keep [10, 11, 93] [(10, .int .i32 (l260.getD (Int.tmod (IntKind.i64.wrap a7) 9).toNat 0)), (11, .int .i32 (l260.getD (Int.tmod (IntKind.i64.wrap a8) 9).toNat 0)), (93, .bool ((t273 == t279)))] (by kernel_rfl) ?_
              refine EL.as' [(10, .int .i32 (l260.getD (Int.tmod (IntKind.i64.wrap a7) 9).toNat 0)), (11, .int .i32 (l260.getD (Int.tmod (IntKind.i64.wrap a8) 9).toNat 0)), (93, .bool (false))] (by simp only [(Bool.eq_false_iff.2 h291), Bool.not_true, Bool.not_false]) ?_
              refine EL.quick 20 [8] [(8, .bool (false))] (by kernel_rfl) ?_
              refine EL.done (by kernel_rfl) ?_
              refine EQ.code ?_
              refine EW.ret (by kernel_rfl) ?_
              obtain rfl := Option.some.inj H
              exact EQ.leave (.bool (false)) (by kernel_rfl) ⟨_, rfl, rfl, (hS.re [] [0] rfl (sub_self))⟩
          · rw [if_neg h290] at H
            refine EL.keep [10, 11, 13, 15, 88] [(10, .int .i32 (l260.getD (Int.tmod (IntKind.i64.wrap a7) 9).toNat 0)), (11, .int .i32 (l260.getD (Int.tmod (IntKind.i64.wrap a8) 9).toNat 0)), (13, .bool (t273)), (15, .bool (t279)), (88, .bool (decide (t272 = t278)))] (by kernel_rfl) ?_
            refine EL.as' [(10, .int .i32 (l260.getD (Int.tmod (IntKind.i64.wrap a7) 9).toNat 0)), (11, .int .i32 (l260.getD (Int.tmod (IntKind.i64.wrap a8) 9).toNat 0)), (13, .bool (t273)), (15, .bool (t279)), (88, .bool (false))] (by simp only [dec_f h290, Bool.not_true, Bool.not_false]) ?_
            refine EL.quick 25 [8] [(8, .bool (false))] (by kernel_rfl) ?_
            refine EL.done (by kernel_rfl) ?_
            refine EQ.code ?_
            refine EW.ret (by kernel_rfl) ?_
            obtain rfl := Option.some.inj H
            exact EQ.leave (.bool (false)) (by kernel_rfl) ⟨_, rfl, rfl, (hS.re [] [0] rfl (sub_self))⟩
        · rw [if_neg h289] at H
          refine EL.keep [10, 11, 12, 13, 14, 15, 83] [(10, .int .i32 (l260.getD (Int.tmod (IntKind.i64.wrap a7) 9).toNat 0)), (11, .int .i32 (l260.getD (Int.tmod (IntKind.i64.wrap a8) 9).toNat 0)), (12, .int .i32 t272), (13, .bool (t273)), (14, .int .i32 t278), (15, .bool (t279)), (83, .bool (decide (t287 = (IntKind.i32.wrap (IntKind.u32.wrap (IntKind.u64.wrap (IntKind.i64.wrap ((IntKind.i64.wrap (l260.getD (Int.tmod (IntKind.i64.wrap a7) 9).toNat 0)) * (IntKind.i64.wrap (l260.getD (Int.tmod (IntKind.i64.wrap a8) 9).toNat 0))))))))))] (by kernel_rfl) ?_
          refine EL.as' [(10, .int .i32 (l260.getD (Int.tmod (IntKind.i64.wrap a7) 9).toNat 0)), (11, .int .i32 (l260.getD (Int.tmod (IntKind.i64.wrap a8) 9).toNat 0)), (12, .int .i32 t272), (13, .bool (t273)), (14, .int .i32 t278), (15, .bool (t279)), (83, .bool (false))] (by simp only [dec_f h289, Bool.not_true, Bool.not_false]) ?_
          refine EL.quick 30 [8] [(8, .bool (false))] (by kernel_rfl) ?_
          refine EL.done (by kernel_rfl) ?_
          refine EQ.code ?_
          refine EW.ret (by kernel_rfl) ?_
          obtain rfl := Option.some.inj H
          exact EQ.leave (.bool (false)) (by kernel_rfl) ⟨_, rfl, rfl, (hS.re [] [0] rfl (sub_self))⟩
      · rw [if_neg h286] at H
        refine EL.keep [10, 11, 12, 13, 14, 15, 69] [(10, .int .i32 (l260.getD (Int.tmod (IntKind.i64.wrap a7) 9).toNat 0)), (11, .int .i32 (l260.getD (Int.tmod (IntKind.i64.wrap a8) 9).toNat 0)), (12, .int .i32 t272), (13, .bool (t273)), (14, .int .i32 t278), (15, .bool (t279)), (69, .bool (decide (t284 = (IntKind.i32.wrap (IntKind.u32.wrap (IntKind.i64.wrap ((IntKind.i64.wrap (l260.getD (Int.tmod (IntKind.i64.wrap a7) 9).toNat 0)) - (IntKind.i64.wrap (l260.getD (Int.tmod (IntKind.i64.wrap a8) 9).toNat 0)))))))))] (by kernel_rfl) ?_
        refine EL.as' [(10, .int .i32 (l260.getD (Int.tmod (IntKind.i64.wrap a7) 9).toNat 0)), (11, .int .i32 (l260.getD (Int.tmod (IntKind.i64.wrap a8) 9).toNat 0)), (12, .int .i32 t272), (13, .bool (t273)), (14, .int .i32 t278), (15, .bool (t279)), (69, .bool (false))] (by simp only [dec_f h286, Bool.not_true, Bool.not_false]) ?_
        refine EL.quick 44 [8] [(8, .bool (false))] (by kernel_rfl) ?_
        refine EL.done (by kernel_rfl) ?_
        refine EQ.code ?_
        refine EW.ret (by kernel_rfl) ?_
        obtain rfl := Option.some.inj H
        exact EQ.leave (.bool (false)) (by kernel_rfl) ⟨_, rfl, rfl, (hS.re [] [0] rfl (sub_self))⟩
    · rw [if_neg h283] at H
      refine EL.keep [10, 11, 12, 13, 14, 15, 56] [(10, .int .i32 (l260.getD (Int.tmod (IntKind.i64.wrap a7) 9).toNat 0)), (11, .int .i32 (l260.getD (Int.tmod (IntKind.i64.wrap a8) 9).toNat 0)), (12, .int .i32 t272), (13, .bool (t273)), (14, .int .i32 t278), (15, .bool (t279)), (56, .bool (decide (t281 = (IntKind.i32.wrap (IntKind.u32.wrap (IntKind.i64.wrap ((IntKind.i64.wrap (l260.getD (Int.tmod (IntKind.i64.wrap a7) 9).toNat 0)) + (IntKind.i64.wrap (l260.getD (Int.tmod (IntKind.i64.wrap a8) 9).toNat 0)))))))))] (by kernel_rfl) ?_
      refine EL.as' [(10, .int .i32 (l260.getD (Int.tmod (IntKind.i64.wrap a7) 9).toNat 0)), (11, .int .i32 (l260.getD (Int.tmod (IntKind.i64.wrap a8) 9).toNat 0)), (12, .int .i32 t272), (13, .bool (t273)), (14, .int .i32 t278), (15, .bool (t279)), (56, .bool (false))] (by simp only [dec_f h283, Bool.not_true, Bool.not_false]) ?_
      refine EL.quick 57 [8] [(8, .bool (false))] (by kernel_rfl) ?_
      refine EL.done (by kernel_rfl) ?_
      refine EQ.code ?_
      refine EW.ret (by kernel_rfl) ?_
      obtain rfl := Option.some.inj H
      exact EQ.leave (.bool (false)) (by kernel_rfl) ⟨_, rfl, rfl, (hS.re [] [0] rfl (sub_self))⟩
  · rw [if_neg h256] at H
    refine EW.seq (x := C9.r.l.r.l.l) (y := C9.r.l.r.l.r) (by kernel_rfl) ?_
    refine EW.region (id := 2) (ops := C9.r.l.r.l.l.ops) (by kernel_rfl) ?_
    refine EL.quick 1 [8] [(8, .bool (false))] (by kernel_rfl) ?_
    refine EL.done (by kernel_rfl) ?_
    refine EQ.code ?_
    refine EW.ret (by kernel_rfl) ?_
    refine EQ.ret ?_
    obtain rfl := Option.some.inj H
    exact EQ.leave (.bool (false)) (by kernel_rfl) ⟨_, rfl, rfl, (hS.re [] [] rfl (sub_self))⟩

def confidantlaw9_WordTells.Pure : Prop := ∀ (a5 : Int) (a6 : Int) (a7 : Int) (a8 : Int), (Lit.int .i32 a5).wf = true → (Lit.int .i32 a6).wf = true → (Lit.int .u8 a7).wf = true → (Lit.int .u8 a8).wf = true → ∃ K, confidantlaw9_WordTells.f K a5 a6 a7 a8 = some true

noncomputable def C10 : Code := bodyOf Try.f10

end Go.Proofs.Ytepokhmomojcmaa.G
