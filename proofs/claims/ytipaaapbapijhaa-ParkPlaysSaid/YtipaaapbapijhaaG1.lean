import Derived.Test.YtipaaapbapijhaaProg
import Derived.Test.YtipaaapbapijhaaFwEq
import Derived.Test.YtipaaapbapijhaaFwOpen
import Derived.Test.YtipaaapbapijhaaG0
namespace Go.Proofs.Ytipaaapbapijhaa.G
open Go Go.Fw Go.RowKit Go.Proofs
set_option linter.unusedVariables false
set_option linter.unusedSimpArgs false

/-! ### confidant/future.New: function 11 -/
def future_New.l0 (K : Nat) (a0 : List Int) : Nat → (List (List S96)) → (List Int) → Int → Option (List (List S96) × List Int)
 | 0, _, _, _ => none
 | n + 1, b1, a6, b0 => if b0 < (a0.length : Int) then (if 0 ≤ b0 then (if (b1.length + ([([] : List S96)] : List (List S96)).length) * 24 ≤ 140737488355328 then (lt (b1 ++ ([([] : List S96)] : List (List S96))) fun a2 => (lt ([mn (mx (a0.getD b0.toNat 0) 0) 4096] : List Int) fun a9 => (if (a6.length + a9.length) * 8 ≤ 140737488355328 then (lt (a6 ++ a9) fun a5 => (future_New.l0 K a0 n a2 a5 (IntKind.i64.wrap (b0 + 1)))) else none))) else none) else none) else (some (b1, a6))
def future_New.f (K : Nat) (l11 : List Int) : Option (List (List S96) × List Int) := if 0 ≤ (mn (l11.length : Int) 16) then (if (mn (l11.length : Int) 16) ≤ (l11.length : Int) then (lt (l11.take ((mn (l11.length : Int) 16).toNat)) fun a0 => (future_New.l0 K a0 K ([] : List (List S96)) ([] : List Int) 0)) else none) else none
set_option maxHeartbeats 4000000 in
set_option maxRecDepth 100000 in
theorem future_New.calls {K : Nat} {l11 : List Int} {A12 : Option Addr} {C13 : Nat} {B5 : List (List S96)} {B6 : List Int} {B w : World} {os : List Ass} {rs : List Ro} (H : future_New.f K l11 = some (B5, B6)) (hS : St B w (os) (Ro.sl (Kd.int .i64) A12 C13 l11 :: rs)) :
  Calls Try.prog 11 [.slice A12 l11.length C13].toArray w (fun en w' => ∃ v, en = .returned v ∧ ∃ C4 : Nat, ∃ B8 : Option Addr, ∃ C1 : Nat, ∃ B9 : Option Addr, ∃ C2 : Nat, v = .pointer (some ⟨C4, 0, none⟩) ∧ St B w' (Ass.box 91 C4 [.slice B8 B5.length C1, .slice B9 B6.length C2] :: Ass.deep 94 96 kS96 B8 C1 B5 :: Ass.own 3 (Kd.int .i64) B9 C2 B6 :: os) (Ro.sl (Kd.int .i64) A12 C13 l11 :: rs)) := by
 unfold future_New.f at H
 refine calls_of_EW (args := [.slice A12 l11.length C13]) (c := Cd11) 41 Try.func11 (by kernel_rfl) (by kernel_rfl) (by kernel_rfl) ?_
 refine EW.seq (x := Cd11.l) (y := Cd11.r) (by kernel_rfl) ?_
 refine EW.region (id := 0) (ops := Cd11.l.ops) (by kernel_rfl) ?_
 refine EL.quick 1 [0] [(0, .slice A12 l11.length C13)] (by kernel_rfl) ?_
 refine EL.done (by kernel_rfl) ?_
 refine EQ.code ?_
 refine EW.seq (x := Cd11.r.l) (y := Cd11.r.r) (by kernel_rfl) ?_
 refine EW.region (id := 1) (ops := Cd11.r.l.ops) (by kernel_rfl) ?_
 refine EL.quick 1 [0, 6] [(0, .slice A12 l11.length C13), (6, .agg #[.slice none ([] : List (List S96)).length 0, .slice none ([] : List Int).length 0])] (by kernel_rfl) ?_
 refine EL.of (EO.box hS 91 (.agg #[.slice none ([] : List (List S96)).length 0, .slice none ([] : List Int).length 0]) [.slice none ([] : List (List S96)).length 0, .slice none ([] : List Int).length 0] 7 (by kernel_rfl) (by kernel_rfl) (by kernel_rfl) (by first | rfl | kernel_rfl) ?_)
 intro a1 w hS
 refine EL.quick 1 [0, 3] [(0, .slice A12 l11.length C13), (3, .pointer (some ⟨a1, 0, none⟩))] (by kernel_rfl) ?_
 refine EL.done (by kernel_rfl) ?_
 refine EQ.code ?_
 refine EW.seq (x := Cd11.r.r.l) (y := Cd11.r.r.r) (by kernel_rfl) ?_
 refine EW.seq (x := Cd11.r.r.l.l) (y := Cd11.r.r.l.r) (by kernel_rfl) ?_
 refine EW.region (id := 2) (ops := Cd11.r.r.l.l.ops) (by kernel_rfl) ?_
 refine EL.quick 4 [3, 8, 11] [(3, .pointer (some ⟨a1, 0, none⟩)), (8, .slice A12 l11.length C13), (11, .int .i64 (mn (l11.length : Int) 16))] (by kernel_rfl) ?_
 obtain ⟨D4, H⟩ := ite_in H
 obtain ⟨D5, H⟩ := ite_in H
 obtain ⟨a0, D3, H⟩ := lt_out H
 refine EL.of (EO.sliceRo hS (Kd.int .i64) A12 C13 l11 0 rfl none (some (.int .i64 (mn (l11.length : Int) 16))) none 0 ((mn (l11.length : Int) 16).toNat) C13 a0 (by rw [D3]; exact (slice_hi _ _)) 66 12 (by kernel_rfl) (by kernel_rfl) (by kernel_rfl) (by kernel_rfl) (rfl) ((Int.toNat_of_nonneg (by omega)).symm) ⟨rfl, fun h => by first | rfl | cases h⟩ (by omega) (by omega) (.inl rfl) ?_)
 intro z6 a3 hS
 refine EL.quick 2 [3, 12, 13, 14] [(3, .pointer (some ⟨a1, 0, none⟩)), (12, .slice z6 a0.length a3), (13, .int .i64 (a0.length : Int)), (14, .int .i64 0)] (by kernel_rfl) ?_
 refine EL.done (by kernel_rfl) ?_
 refine EQ.code ?_
 refine EW.block (x := Cd11.r.r.l.r.l) (id := 0) (by kernel_rfl) ?_
 have hS := St.nilDeep hS 94 96 kS96
 have hS := St.nilO hS 3 (Kd.int .i64)
 refine EW.loop (x := Cd11.r.r.l.r.l.l) (fun n a w => ∃ b1 : List (List S96), ∃ a6 : List Int, ∃ b0 : Int, ∃ b2 : Option Addr, ∃ b3 : Nat, ∃ a7 : Option Addr, ∃ a8 : Nat, Sat 41 [(3, .pointer (some ⟨a1, 0, none⟩)), (12, .slice z6 a0.length a3), (13, .int .i64 (a0.length : Int)), (14, .int .i64 b0)] a ∧ St B w (Ass.box 91 a1 [.slice b2 b1.length b3, .slice a7 a6.length a8] :: Ass.deep 94 96 kS96 b2 b3 b1 :: Ass.own 3 (Kd.int .i64) a7 a8 a6 :: os) (Ro.sl (Kd.int .i64) z6 a3 a0 :: Ro.sl (Kd.int .i64) A12 C13 l11 :: rs) ∧ future_New.l0 K a0 n b1 a6 b0 = some (B5, B6)) K (by kernel_rfl) ?_ (fun n a w hI => ?_)
 ·refine EQ.keep [3, 12, 13, 14] [(3, .pointer (some ⟨a1, 0, none⟩)), (12, .slice z6 a0.length a3), (13, .int .i64 (a0.length : Int)), (14, .int .i64 0)] (by kernel_rfl) ?_
  exact fun a ha => ⟨([] : List (List S96)), ([] : List Int), 0, none, 0, none, 0, ha, (hS.re [0, 1, 2] [] rfl (sub_cons 0 rfl (sub_cons 1 rfl (sub_tail (sub_tail (sub_self)))))), H⟩
 ·obtain ⟨b1, a6, b0, b2, b3, a7, a8, ha, hS, H⟩ := hI
  obtain _ | n := n
  ·simp [future_New.l0] at H
  rw [future_New.l0.eq_2] at H
  refine EW.at ?_ a ha
  clear ha a
  refine EW.seq (x := Cd11.r.r.l.r.l.l.l) (y := Cd11.r.r.l.r.l.l.r) (by kernel_rfl) ?_
  refine EW.region (id := 3) (ops := Cd11.r.r.l.r.l.l.l.ops) (by kernel_rfl) ?_
  refine EL.quick 1 [3, 12, 13, 14, 15] [(3, .pointer (some ⟨a1, 0, none⟩)), (12, .slice z6 a0.length a3), (13, .int .i64 (a0.length : Int)), (14, .int .i64 b0), (15, .bool (decide (b0 < (a0.length : Int))))] (by kernel_rfl) ?_
  refine EL.done (by kernel_rfl) ?_
  refine EQ.code ?_
  refine EW.seq (x := Cd11.r.r.l.r.l.l.r.l) (y := Cd11.r.r.l.r.l.l.r.r) (by kernel_rfl) ?_
  refine EW.condP (o := (.tmp 15)) (x := Cd11.r.r.l.r.l.l.r.l.l) (y := Cd11.r.r.l.r.l.l.r.l.r) (b0 < (a0.length : Int)) (by kernel_rfl) (by kernel_rfl) (fun z5 => ?_) (fun z5 => ?_)
  ·rw [if_pos z5] at H
   refine EW.skip (by kernel_rfl) ?_
   refine EQ.code ?_
   refine EW.seq (x := Cd11.r.r.l.r.l.l.r.r.l) (y := Cd11.r.r.l.r.l.l.r.r.r) (by kernel_rfl) ?_
   refine EW.block (x := Cd11.r.r.l.r.l.l.r.r.l.l) (id := 1) (by kernel_rfl) ?_
   refine EW.seq (x := Cd11.r.r.l.r.l.l.r.r.l.l.l) (y := Cd11.r.r.l.r.l.l.r.r.l.l.r) (by kernel_rfl) ?_
   refine EW.region (id := 4) (ops := Cd11.r.r.l.r.l.l.r.r.l.l.l.ops) (by kernel_rfl) ?_
   obtain ⟨B7, H⟩ := ite_in H
   obtain ⟨a4, rfl⟩ := St.rd_some hS (Rd.ro 0 rfl) B7 z5
   refine EL.of (EO.Y (YO.idx 66 1 a4 a0.length a3 .i64 b0 16 (by kernel_rfl) (by kernel_rfl) (by kernel_rfl) (by kernel_rfl) B7 z5) ?_)
   refine EL.of (EO.Y (YO.loadEl hS (Kd.int .i64) a4 a3 a0 (Rd.ro 0 rfl) 0 (encI .i64) encI_of b0 B7 z5 3 1 0 1 rfl (.int .i64 (a0.getD b0.toNat 0)) 17 (by kernel_rfl) (by kernel_rfl) (by kernel_rfl) (by kernel_rfl)) ?_)
   refine EL.quick 1 [3, 5, 12, 13, 14] [(3, .pointer (some ⟨a1, 0, none⟩)), (5, .int .i64 (a0.getD b0.toNat 0)), (12, .slice (some a4) a0.length a3), (13, .int .i64 (a0.length : Int)), (14, .int .i64 b0)] (by kernel_rfl) ?_
   refine EL.done (by kernel_rfl) ?_
   refine EQ.code ?_
   obtain ⟨b8, H⟩ := ite_in H
   obtain ⟨a2, b9, H⟩ := lt_out H
   obtain ⟨a9, b5, H⟩ := lt_out H
   obtain ⟨b6, H⟩ := ite_in H
   obtain ⟨a5, b7, H⟩ := lt_out H
   refine EW.meet (id := 5) (ops := Cd11.r.r.l.r.l.l.r.r.l.l.r.ops) (fun a w => ∃ C0 : Option Addr, ∃ C3 : Nat, ∃ A7 : Option Addr, ∃ A9 : Nat, ∃ A8 : Option Addr, ∃ B0 : Nat, Sat 41 [(3, .pointer (some ⟨a1, 0, none⟩)), (12, .slice (some a4) a0.length a3), (13, .int .i64 (a0.length : Int)), (14, .int .i64 b0)] a ∧ St B w (Ass.own 3 (Kd.int .i64) C0 C3 a9 :: Ass.deep 94 96 kS96 A7 A9 a2 :: Ass.box 91 a1 [.slice A7 a2.length A9, .slice A8 a5.length B0] :: Ass.own 3 (Kd.int .i64) A8 B0 a5 :: os) (Ro.sl (Kd.int .i64) (some a4) a3 a0 :: Ro.sl (Kd.int .i64) A12 C13 l11 :: rs)) (by kernel_rfl) ?_ (fun a w hI => ?_)
   ·have hS := hS.drew
    refine EW.draw (B := B) (id := 5) (ops := Cd11.r.r.l.r.l.l.r.r.l.l.r.ops) [] [Ro.sl (Kd.int .i64) (some a4) a3 a0, Ro.sl (Kd.int .i64) A12 C13 l11] (by kernel_rfl) (by kernel_rfl) ?_
    have hN : Region.noSelect Cd11.r.r.l.r.l.l.r.r.l.l.r.ops = true := (by kernel_rfl)
    have hF : freeAll Cd11.r.r.l.r.l.l.r.r.l.l.r.ops = true := (by kernel_rfl)
    have hC : Core B [] [Ro.sl (Kd.int .i64) (some a4) a3 a0, Ro.sl (Kd.int .i64) A12 C13 l11] _ := ⟨_, _, hS⟩
    refine ED.quick hN hF hC [0, 1, 2, 3, 4, 8, 9, 10, 12, 13, 14] [3, 12, 13, 14, 18, 19, 22, 28, 32] 12 [(3, .pointer (some ⟨a1, 0, none⟩)), (12, .slice (some a4) a0.length a3), (13, .int .i64 (a0.length : Int)), (14, .int .i64 b0), (18, .pointer (some ⟨a1, 0, none⟩)), (19, .pointer (some ⟨a1, 0, none⟩)), (22, .pointer (some ⟨a1, 0, none⟩)), (28, .pointer (some ⟨a1, 1, none⟩)), (32, .int .i64 (mn (mx (a0.getD b0.toNat 0) 0) 4096))] #[true, true, true, true, true, false, false, false, true, true, true, false, true, true, true, false, false, false, false, false, false, false, false] (by kernel_rfl) (by kernel_rfl) ?_
    refine ED.many 5 [6, 11, 15] 11 (by kernel_rfl) (by kernel_rfl) (Each.cons ?_ (Each.cons ?_ (Each.cons ?_ (Each.cons ?_ Each.nil))))
    ·refine EO.Y (YO.loadBox hS 0 rfl 89 0 1 (.slice b2 b1.length b3) 23 (by kernel_rfl) (by kernel_rfl) (by kernel_rfl) (by kernel_rfl)) ?_
     have hC : Core B [] [Ro.sl (Kd.int .i64) (some a4) a3 a0, Ro.sl (Kd.int .i64) A12 C13 l11] _ := ⟨_, _, hS⟩
     refine ⟨hC, ?_⟩
     refine ED.at' #[true, true, true, true, true, true, false, false, true, true, true, false, true, true, true, false, false, false, false, false, false, false, false] (by kernel_rfl) ?_
     refine ED.many 6 [11, 15] 10 (by kernel_rfl) (by kernel_rfl) (Each.cons ?_ (Each.cons ?_ (Each.cons ?_ Each.nil)))
     ·refine EO.lit (xs := ([(none, ([] : List S96).length, 0)] : List Hdr)) hS Kd.hdr 94 89 1 #[(0, .slice none ([] : List S96).length 0)] [.slice none ([] : List S96).length 0] 24 (by kernel_rfl) (by kernel_rfl) (by kernel_rfl) (fun _ => (by kernel_rfl)) rfl (by kernel_rfl) (fun w G hr => ⟨[.slice none ([] : List S96).length 0], [], rfl, rfl, rfl⟩) ?_
      intro y2 w hS
      have hS := St.nilO hS 96 kS96
      have hC : Core B [] [Ro.sl (Kd.int .i64) (some a4) a3 a0, Ro.sl (Kd.int .i64) A12 C13 l11] _ := ⟨_, _, hS⟩
      refine ⟨hC, ?_⟩
      refine ED.at' #[true, true, true, true, true, true, true, false, true, true, true, false, true, true, true, false, false, false, false, false, false, false, false] (by kernel_rfl) ?_
      refine ED.many 7 [11, 15] 9 (by kernel_rfl) (by kernel_rfl) (Each.cons ?_ (Each.cons ?_ (Each.cons ?_ Each.nil)))
      ·have hS := St.as (os' := Ass.deep 94 96 kS96 (some ⟨y2, 0, none⟩) 1 ([([] : List S96)] : List (List S96)) :: Ass.box 91 a1 [.slice b2 b1.length b3, .slice a7 a6.length a8] :: Ass.deep 94 96 kS96 b2 b3 b1 :: Ass.own 3 (Kd.int .i64) a7 a8 a6 :: os) (St.fold (B := B) (os := _) (rs := _) (et := 94) (et' := 96) (K := kS96) (hs := [(none, ([] : List S96).length, 0)]) (xs := ([([] : List S96)] : List (List S96))) ⟨rfl, trivial⟩ (St.re hS [0, 1] [] rfl sub_self)) rfl
       refine EO.appendDeep hS 89 89 24 2 0 kS96 b2 b3 b1 rfl (some ⟨y2, 0, none⟩) 1 ([([] : List S96)] : List (List S96)) rfl a2 b9 (fun c0 c2 => Ass.deep 94 96 kS96 c0 c2 a2 :: Ass.box 91 a1 [.slice b2 b1.length b3, .slice a7 a6.length a8] :: Ass.own 3 (Kd.int .i64) a7 a8 a6 :: os) 25 (by kernel_rfl) (by kernel_rfl) (by kernel_rfl) (by kernel_rfl) b8 (fun _ _ => rfl) ?_
       intro c0 c2 w hS
       have hC : Core B [] [Ro.sl (Kd.int .i64) (some a4) a3 a0, Ro.sl (Kd.int .i64) A12 C13 l11] _ := ⟨_, _, hS⟩
       refine ⟨hC, ?_⟩
       refine ED.at' #[true, true, true, true, true, true, true, true, true, true, true, false, true, true, true, false, false, false, false, false, false, false, false] (by kernel_rfl) ?_
       refine ED.two 11 15 8 (by kernel_rfl) (by kernel_rfl) ?_ ?_
       ·refine EO.Y (YO.loadBox hS 1 rfl 66 1 1 (.slice a7 a6.length a8) 29 (by kernel_rfl) (by kernel_rfl) (by kernel_rfl) (by kernel_rfl)) ?_
        have hC : Core B [] [Ro.sl (Kd.int .i64) (some a4) a3 a0, Ro.sl (Kd.int .i64) A12 C13 l11] _ := ⟨_, _, hS⟩
        refine ⟨hC, ?_⟩
        refine ED.at' #[true, true, true, true, true, true, true, true, true, true, true, true, true, true, true, false, false, false, false, false, false, false, false] (by kernel_rfl) ?_
        refine ED.one 15 7 #[true, true, true, true, true, true, true, true, true, true, true, true, true, true, true, true, false, false, false, false, false, false, false] (by kernel_rfl) (by kernel_rfl) (by kernel_rfl) (EO.lit hS (Kd.int .i64) 3 66 1 #[(0, .int .i64 (mn (mx (a0.getD b0.toNat 0) 0) 4096))] [.int .i64 (mn (mx (a0.getD b0.toNat 0) 0) 4096)] a9 33 (by kernel_rfl) (by kernel_rfl) (by kernel_rfl) (fun _ => (by kernel_rfl)) (by rw [b5]; rfl) (by kernel_rfl) (fun w G hr => (by rw [b5]; exact ⟨[.int .i64 (mn (mx (a0.getD b0.toNat 0) 0) 4096)], [], rfl, rfl, rfl⟩)) ?_)
        intro z7 w hS
        have hC : Core B [] [Ro.sl (Kd.int .i64) (some a4) a3 a0, Ro.sl (Kd.int .i64) A12 C13 l11] _ := ⟨_, _, hS⟩
        refine ⟨hC, ?_⟩
        refine ED.one 16 6 #[true, true, true, true, true, true, true, true, true, true, true, true, true, true, true, true, true, false, false, false, false, false, false] (by kernel_rfl) (by kernel_rfl) (by kernel_rfl) (EO.append hS 66 66 3 8 3 (Kd.int .i64) a7 a8 a6 rfl (some ⟨z7, 0, none⟩) 1 a9 (Rd.own 0 3 rfl) a5 b7 (fun n2 t2 => Ass.own 3 (Kd.int .i64) (some ⟨z7, 0, none⟩) 1 a9 :: Ass.deep 94 96 kS96 c0 c2 a2 :: Ass.box 91 a1 [.slice b2 b1.length b3, .slice a7 a6.length a8] :: Ass.own 3 (Kd.int .i64) n2 t2 a5 :: os) 34 (by kernel_rfl) (by kernel_rfl) (by kernel_rfl) (by kernel_rfl) b6 (fun _ _ => rfl) ?_)
        intro n2 t2 w hS
        have hC : Core B [] [Ro.sl (Kd.int .i64) (some a4) a3 a0, Ro.sl (Kd.int .i64) A12 C13 l11] _ := ⟨_, _, hS⟩
        refine ⟨hC, ?_⟩
        refine ED.quick hN hF hC [17, 18] [3, 12, 13, 14, 19, 25, 34, 36] 4 [(3, .pointer (some ⟨a1, 0, none⟩)), (12, .slice (some a4) a0.length a3), (13, .int .i64 (a0.length : Int)), (14, .int .i64 b0), (19, .pointer (some ⟨a1, 0, none⟩)), (25, .slice c0 a2.length c2), (34, .slice n2 a5.length t2), (36, .pointer (some ⟨a1, 0, none⟩))] #[true, true, true, true, true, true, true, true, true, true, true, true, true, true, true, true, true, true, true, false, false, false, false] (by kernel_rfl) (by kernel_rfl) ?_
        refine ED.one 19 3 #[true, true, true, true, true, true, true, true, true, true, true, true, true, true, true, true, true, true, true, true, false, false, false] (by kernel_rfl) (by kernel_rfl) (by kernel_rfl) (EO.storeBox (os' := Ass.own 3 (Kd.int .i64) (some ⟨z7, 0, none⟩) 1 a9 :: Ass.deep 94 96 kS96 c0 c2 a2 :: Ass.box 91 a1 [.slice c0 a2.length c2, .slice a7 a6.length a8] :: Ass.own 3 (Kd.int .i64) n2 t2 a5 :: os) hS 2 rfl 89 0 (.slice c0 a2.length c2) [.slice c0 a2.length c2, .slice a7 a6.length a8] (by kernel_rfl) (by kernel_rfl) (by kernel_rfl) (by kernel_rfl) (by kernel_rfl) (by kernel_rfl) rfl rfl ?_)
        intro w hS
        have hC : Core B [] [Ro.sl (Kd.int .i64) (some a4) a3 a0, Ro.sl (Kd.int .i64) A12 C13 l11] _ := ⟨_, _, hS⟩
        refine ⟨hC, ?_⟩
        refine ED.quick hN hF hC [20, 21] [3, 12, 13, 14, 34, 38] 1 [(3, .pointer (some ⟨a1, 0, none⟩)), (12, .slice (some a4) a0.length a3), (13, .int .i64 (a0.length : Int)), (14, .int .i64 b0), (34, .slice n2 a5.length t2), (38, .pointer (some ⟨a1, 1, none⟩))] #[true, true, true, true, true, true, true, true, true, true, true, true, true, true, true, true, true, true, true, true, true, true, false] (by kernel_rfl) (by kernel_rfl) ?_
        refine ED.one 22 0 #[true, true, true, true, true, true, true, true, true, true, true, true, true, true, true, true, true, true, true, true, true, true, true] (by kernel_rfl) (by kernel_rfl) (by kernel_rfl) (EO.storeBox (os' := Ass.own 3 (Kd.int .i64) (some ⟨z7, 0, none⟩) 1 a9 :: Ass.deep 94 96 kS96 c0 c2 a2 :: Ass.box 91 a1 [.slice c0 a2.length c2, .slice n2 a5.length t2] :: Ass.own 3 (Kd.int .i64) n2 t2 a5 :: os) hS 2 rfl 66 1 (.slice n2 a5.length t2) [.slice c0 a2.length c2, .slice n2 a5.length t2] (by kernel_rfl) (by kernel_rfl) (by kernel_rfl) (by kernel_rfl) (by kernel_rfl) (by kernel_rfl) rfl rfl ?_)
        intro w hS
        have hC : Core B [] [Ro.sl (Kd.int .i64) (some a4) a3 a0, Ro.sl (Kd.int .i64) A12 C13 l11] _ := ⟨_, _, hS⟩
        refine ⟨hC, ?_⟩
        refine ED.done (by kernel_rfl) ?_
        refine EQ.to ?_
        refine EQ.keep [3, 12, 13, 14] [(3, .pointer (some ⟨a1, 0, none⟩)), (12, .slice (some a4) a0.length a3), (13, .int .i64 (a0.length : Int)), (14, .int .i64 b0)] (by kernel_rfl) ?_
        exact fun a ha => ⟨(some ⟨z7, 0, none⟩), 1, c0, c2, n2, t2, ha, (hS.re [3, 3, 3, 3] [] rfl (sub_cons 0 rfl (sub_cons 1 rfl (sub_tail (sub_tail (sub_self))))))⟩
       ·refine EO.lit hS (Kd.int .i64) 3 66 1 #[(0, .int .i64 (mn (mx (a0.getD b0.toNat 0) 0) 4096))] [.int .i64 (mn (mx (a0.getD b0.toNat 0) 0) 4096)] a9 33 (by kernel_rfl) (by kernel_rfl) (by kernel_rfl) (fun _ => (by kernel_rfl)) (by rw [b5]; rfl) (by kernel_rfl) (fun w G hr => (by rw [b5]; exact ⟨[.int .i64 (mn (mx (a0.getD b0.toNat 0) 0) 4096)], [], rfl, rfl, rfl⟩)) ?_
        intro z8 w hS
        have hC : Core B [] [Ro.sl (Kd.int .i64) (some a4) a3 a0, Ro.sl (Kd.int .i64) A12 C13 l11] _ := ⟨_, _, hS⟩
        refine ⟨hC, ?_⟩
        refine ED.at' #[true, true, true, true, true, true, true, true, true, true, true, false, true, true, true, true, false, false, false, false, false, false, false] (by kernel_rfl) ?_
        refine ED.one 11 7 #[true, true, true, true, true, true, true, true, true, true, true, true, true, true, true, true, false, false, false, false, false, false, false] (by kernel_rfl) (by kernel_rfl) (by kernel_rfl) (EO.Y (YO.loadBox hS 2 rfl 66 1 1 (.slice a7 a6.length a8) 29 (by kernel_rfl) (by kernel_rfl) (by kernel_rfl) (by kernel_rfl)) ?_)
        have hC : Core B [] [Ro.sl (Kd.int .i64) (some a4) a3 a0, Ro.sl (Kd.int .i64) A12 C13 l11] _ := ⟨_, _, hS⟩
        refine ⟨hC, ?_⟩
        refine ED.one 16 6 #[true, true, true, true, true, true, true, true, true, true, true, true, true, true, true, true, true, false, false, false, false, false, false] (by kernel_rfl) (by kernel_rfl) (by kernel_rfl) (EO.append hS 66 66 3 8 3 (Kd.int .i64) a7 a8 a6 rfl (some ⟨z8, 0, none⟩) 1 a9 (Rd.own 0 3 rfl) a5 b7 (fun n3 t3 => Ass.own 3 (Kd.int .i64) (some ⟨z8, 0, none⟩) 1 a9 :: Ass.deep 94 96 kS96 c0 c2 a2 :: Ass.box 91 a1 [.slice b2 b1.length b3, .slice a7 a6.length a8] :: Ass.own 3 (Kd.int .i64) n3 t3 a5 :: os) 34 (by kernel_rfl) (by kernel_rfl) (by kernel_rfl) (by kernel_rfl) b6 (fun _ _ => rfl) ?_)
        intro n3 t3 w hS
        have hC : Core B [] [Ro.sl (Kd.int .i64) (some a4) a3 a0, Ro.sl (Kd.int .i64) A12 C13 l11] _ := ⟨_, _, hS⟩
        refine ⟨hC, ?_⟩
        refine ED.quick hN hF hC [17, 18] [3, 12, 13, 14, 19, 25, 34, 36] 4 [(3, .pointer (some ⟨a1, 0, none⟩)), (12, .slice (some a4) a0.length a3), (13, .int .i64 (a0.length : Int)), (14, .int .i64 b0), (19, .pointer (some ⟨a1, 0, none⟩)), (25, .slice c0 a2.length c2), (34, .slice n3 a5.length t3), (36, .pointer (some ⟨a1, 0, none⟩))] #[true, true, true, true, true, true, true, true, true, true, true, true, true, true, true, true, true, true, true, false, false, false, false] (by kernel_rfl) (by kernel_rfl) ?_
        refine ED.one 19 3 #[true, true, true, true, true, true, true, true, true, true, true, true, true, true, true, true, true, true, true, true, false, false, false] (by kernel_rfl) (by kernel_rfl) (by kernel_rfl) (EO.storeBox (os' := Ass.own 3 (Kd.int .i64) (some ⟨z8, 0, none⟩) 1 a9 :: Ass.deep 94 96 kS96 c0 c2 a2 :: Ass.box 91 a1 [.slice c0 a2.length c2, .slice a7 a6.length a8] :: Ass.own 3 (Kd.int .i64) n3 t3 a5 :: os) hS 2 rfl 89 0 (.slice c0 a2.length c2) [.slice c0 a2.length c2, .slice a7 a6.length a8] (by kernel_rfl) (by kernel_rfl) (by kernel_rfl) (by kernel_rfl) (by kernel_rfl) (by kernel_rfl) rfl rfl ?_)
        intro w hS
        have hC : Core B [] [Ro.sl (Kd.int .i64) (some a4) a3 a0, Ro.sl (Kd.int .i64) A12 C13 l11] _ := ⟨_, _, hS⟩
        refine ⟨hC, ?_⟩
        refine ED.quick hN hF hC [20, 21] [3, 12, 13, 14, 34, 38] 1 [(3, .pointer (some ⟨a1, 0, none⟩)), (12, .slice (some a4) a0.length a3), (13, .int .i64 (a0.length : Int)), (14, .int .i64 b0), (34, .slice n3 a5.length t3), (38, .pointer (some ⟨a1, 1, none⟩))] #[true, true, true, true, true, true, true, true, true, true, true, true, true, true, true, true, true, true, true, true, true, true, false] (by kernel_rfl) (by kernel_rfl) ?_
        refine ED.one 22 0 #[true, true, true, true, true, true, true, true, true, true, true, true, true, true, true, true, true, true, true, true, true, true, true] (by kernel_rfl) (by kernel_rfl) (by kernel_rfl) (EO.storeBox (os' := Ass.own 3 (Kd.int .i64) (some ⟨z8, 0, none⟩) 1 a9 :: Ass.deep 94 96 kS96 c0 c2 a2 :: Ass.box 91 a1 [.slice c0 a2.length c2, .slice n3 a5.length t3] :: Ass.own 3 (Kd.int .i64) n3 t3 a5 :: os) hS 2 rfl 66 1 (.slice n3 a5.length t3) [.slice c0 a2.length c2, .slice n3 a5.length t3] (by kernel_rfl) (by kernel_rfl) (by kernel_rfl) (by kernel_rfl) (by kernel_rfl) (by kernel_rfl) rfl rfl ?_)
        intro w hS
        have hC : Core B [] [Ro.sl (Kd.int .i64) (some a4) a3 a0, Ro.sl (Kd.int .i64) A12 C13 l11] _ := ⟨_, _, hS⟩
        refine ⟨hC, ?_⟩
        refine ED.done (by kernel_rfl) ?_
        refine EQ.to ?_
        refine EQ.keep [3, 12, 13, 14] [(3, .pointer (some ⟨a1, 0, none⟩)), (12, .slice (some a4) a0.length a3), (13, .int .i64 (a0.length : Int)), (14, .int .i64 b0)] (by kernel_rfl) ?_
        exact fun a ha => ⟨(some ⟨z8, 0, none⟩), 1, c0, c2, n3, t3, ha, (hS.re [3, 3, 3, 3] [] rfl (sub_cons 0 rfl (sub_cons 1 rfl (sub_tail (sub_tail (sub_self))))))⟩
      ·refine EO.Y (YO.loadBox hS 2 rfl 66 1 1 (.slice a7 a6.length a8) 29 (by kernel_rfl) (by kernel_rfl) (by kernel_rfl) (by kernel_rfl)) ?_
       have hC : Core B [] [Ro.sl (Kd.int .i64) (some a4) a3 a0, Ro.sl (Kd.int .i64) A12 C13 l11] _ := ⟨_, _, hS⟩
       refine ⟨hC, ?_⟩
       refine ED.at' #[true, true, true, true, true, true, true, false, true, true, true, true, true, true, true, false, false, false, false, false, false, false, false] (by kernel_rfl) ?_
       refine ED.two 7 15 8 (by kernel_rfl) (by kernel_rfl) ?_ ?_
       ·have hS := St.as (os' := Ass.deep 94 96 kS96 (some ⟨y2, 0, none⟩) 1 ([([] : List S96)] : List (List S96)) :: Ass.box 91 a1 [.slice b2 b1.length b3, .slice a7 a6.length a8] :: Ass.deep 94 96 kS96 b2 b3 b1 :: Ass.own 3 (Kd.int .i64) a7 a8 a6 :: os) (St.fold (B := B) (os := _) (rs := _) (et := 94) (et' := 96) (K := kS96) (hs := [(none, ([] : List S96).length, 0)]) (xs := ([([] : List S96)] : List (List S96))) ⟨rfl, trivial⟩ (St.re hS [0, 1] [] rfl sub_self)) rfl
        refine EO.appendDeep hS 89 89 24 2 0 kS96 b2 b3 b1 rfl (some ⟨y2, 0, none⟩) 1 ([([] : List S96)] : List (List S96)) rfl a2 b9 (fun d0 g6 => Ass.deep 94 96 kS96 d0 g6 a2 :: Ass.box 91 a1 [.slice b2 b1.length b3, .slice a7 a6.length a8] :: Ass.own 3 (Kd.int .i64) a7 a8 a6 :: os) 25 (by kernel_rfl) (by kernel_rfl) (by kernel_rfl) (by kernel_rfl) b8 (fun _ _ => rfl) ?_
        intro d0 g6 w hS
        have hC : Core B [] [Ro.sl (Kd.int .i64) (some a4) a3 a0, Ro.sl (Kd.int .i64) A12 C13 l11] _ := ⟨_, _, hS⟩
        refine ⟨hC, ?_⟩
        refine ED.at' #[true, true, true, true, true, true, true, true, true, true, true, true, true, true, true, false, false, false, false, false, false, false, false] (by kernel_rfl) ?_
        refine ED.one 15 7 #[true, true, true, true, true, true, true, true, true, true, true, true, true, true, true, true, false, false, false, false, false, false, false] (by kernel_rfl) (by kernel_rfl) (by kernel_rfl) (EO.lit hS (Kd.int .i64) 3 66 1 #[(0, .int .i64 (mn (mx (a0.getD b0.toNat 0) 0) 4096))] [.int .i64 (mn (mx (a0.getD b0.toNat 0) 0) 4096)] a9 33 (by kernel_rfl) (by kernel_rfl) (by kernel_rfl) (fun _ => (by kernel_rfl)) (by rw [b5]; rfl) (by kernel_rfl) (fun w G hr => (by rw [b5]; exact ⟨[.int .i64 (mn (mx (a0.getD b0.toNat 0) 0) 4096)], [], rfl, rfl, rfl⟩)) ?_)
        intro z9 w hS
        have hC : Core B [] [Ro.sl (Kd.int .i64) (some a4) a3 a0, Ro.sl (Kd.int .i64) A12 C13 l11] _ := ⟨_, _, hS⟩
        refine ⟨hC, ?_⟩
        refine ED.one 16 6 #[true, true, true, true, true, true, true, true, true, true, true, true, true, true, true, true, true, false, false, false, false, false, false] (by kernel_rfl) (by kernel_rfl) (by kernel_rfl) (EO.append hS 66 66 3 8 3 (Kd.int .i64) a7 a8 a6 rfl (some ⟨z9, 0, none⟩) 1 a9 (Rd.own 0 3 rfl) a5 b7 (fun n4 t4 => Ass.own 3 (Kd.int .i64) (some ⟨z9, 0, none⟩) 1 a9 :: Ass.deep 94 96 kS96 d0 g6 a2 :: Ass.box 91 a1 [.slice b2 b1.length b3, .slice a7 a6.length a8] :: Ass.own 3 (Kd.int .i64) n4 t4 a5 :: os) 34 (by kernel_rfl) (by kernel_rfl) (by kernel_rfl) (by kernel_rfl) b6 (fun _ _ => rfl) ?_)
        intro n4 t4 w hS
        have hC : Core B [] [Ro.sl (Kd.int .i64) (some a4) a3 a0, Ro.sl (Kd.int .i64) A12 C13 l11] _ := ⟨_, _, hS⟩
        refine ⟨hC, ?_⟩
        refine ED.quick hN hF hC [17, 18] [3, 12, 13, 14, 19, 25, 34, 36] 4 [(3, .pointer (some ⟨a1, 0, none⟩)), (12, .slice (some a4) a0.length a3), (13, .int .i64 (a0.length : Int)), (14, .int .i64 b0), (19, .pointer (some ⟨a1, 0, none⟩)), (25, .slice d0 a2.length g6), (34, .slice n4 a5.length t4), (36, .pointer (some ⟨a1, 0, none⟩))] #[true, true, true, true, true, true, true, true, true, true, true, true, true, true, true, true, true, true, true, false, false, false, false] (by kernel_rfl) (by kernel_rfl) ?_
        refine ED.one 19 3 #[true, true, true, true, true, true, true, true, true, true, true, true, true, true, true, true, true, true, true, true, false, false, false] (by kernel_rfl) (by kernel_rfl) (by kernel_rfl) (EO.storeBox (os' := Ass.own 3 (Kd.int .i64) (some ⟨z9, 0, none⟩) 1 a9 :: Ass.deep 94 96 kS96 d0 g6 a2 :: Ass.box 91 a1 [.slice d0 a2.length g6, .slice a7 a6.length a8] :: Ass.own 3 (Kd.int .i64) n4 t4 a5 :: os) hS 2 rfl 89 0 (.slice d0 a2.length g6) [.slice d0 a2.length g6, .slice a7 a6.length a8] (by kernel_rfl) (by kernel_rfl) (by kernel_rfl) (by kernel_rfl) (by kernel_rfl) (by kernel_rfl) rfl rfl ?_)
        intro w hS
        have hC : Core B [] [Ro.sl (Kd.int .i64) (some a4) a3 a0, Ro.sl (Kd.int .i64) A12 C13 l11] _ := ⟨_, _, hS⟩
        refine ⟨hC, ?_⟩
        refine ED.quick hN hF hC [20, 21] [3, 12, 13, 14, 34, 38] 1 [(3, .pointer (some ⟨a1, 0, none⟩)), (12, .slice (some a4) a0.length a3), (13, .int .i64 (a0.length : Int)), (14, .int .i64 b0), (34, .slice n4 a5.length t4), (38, .pointer (some ⟨a1, 1, none⟩))] #[true, true, true, true, true, true, true, true, true, true, true, true, true, true, true, true, true, true, true, true, true, true, false] (by kernel_rfl) (by kernel_rfl) ?_
        refine ED.one 22 0 #[true, true, true, true, true, true, true, true, true, true, true, true, true, true, true, true, true, true, true, true, true, true, true] (by kernel_rfl) (by kernel_rfl) (by kernel_rfl) (EO.storeBox (os' := Ass.own 3 (Kd.int .i64) (some ⟨z9, 0, none⟩) 1 a9 :: Ass.deep 94 96 kS96 d0 g6 a2 :: Ass.box 91 a1 [.slice d0 a2.length g6, .slice n4 a5.length t4] :: Ass.own 3 (Kd.int .i64) n4 t4 a5 :: os) hS 2 rfl 66 1 (.slice n4 a5.length t4) [.slice d0 a2.length g6, .slice n4 a5.length t4] (by kernel_rfl) (by kernel_rfl) (by kernel_rfl) (by kernel_rfl) (by kernel_rfl) (by kernel_rfl) rfl rfl ?_)
        intro w hS
        have hC : Core B [] [Ro.sl (Kd.int .i64) (some a4) a3 a0, Ro.sl (Kd.int .i64) A12 C13 l11] _ := ⟨_, _, hS⟩
        refine ⟨hC, ?_⟩
        refine ED.done (by kernel_rfl) ?_
        refine EQ.to ?_
        refine EQ.keep [3, 12, 13, 14] [(3, .pointer (some ⟨a1, 0, none⟩)), (12, .slice (some a4) a0.length a3), (13, .int .i64 (a0.length : Int)), (14, .int .i64 b0)] (by kernel_rfl) ?_
        exact fun a ha => ⟨(some ⟨z9, 0, none⟩), 1, d0, g6, n4, t4, ha, (hS.re [3, 3, 3, 3] [] rfl (sub_cons 0 rfl (sub_cons 1 rfl (sub_tail (sub_tail (sub_self))))))⟩
       ·refine EO.lit hS (Kd.int .i64) 3 66 1 #[(0, .int .i64 (mn (mx (a0.getD b0.toNat 0) 0) 4096))] [.int .i64 (mn (mx (a0.getD b0.toNat 0) 0) 4096)] a9 33 (by kernel_rfl) (by kernel_rfl) (by kernel_rfl) (fun _ => (by kernel_rfl)) (by rw [b5]; rfl) (by kernel_rfl) (fun w G hr => (by rw [b5]; exact ⟨[.int .i64 (mn (mx (a0.getD b0.toNat 0) 0) 4096)], [], rfl, rfl, rfl⟩)) ?_
        intro y3 w hS
        have hC : Core B [] [Ro.sl (Kd.int .i64) (some a4) a3 a0, Ro.sl (Kd.int .i64) A12 C13 l11] _ := ⟨_, _, hS⟩
        refine ⟨hC, ?_⟩
        refine ED.at' #[true, true, true, true, true, true, true, false, true, true, true, true, true, true, true, true, false, false, false, false, false, false, false] (by kernel_rfl) ?_
        have hS := St.as (os' := Ass.deep 94 96 kS96 (some ⟨y2, 0, none⟩) 1 ([([] : List S96)] : List (List S96)) :: Ass.own 3 (Kd.int .i64) (some ⟨y3, 0, none⟩) 1 a9 :: Ass.box 91 a1 [.slice b2 b1.length b3, .slice a7 a6.length a8] :: Ass.deep 94 96 kS96 b2 b3 b1 :: Ass.own 3 (Kd.int .i64) a7 a8 a6 :: os) (St.fold (B := B) (os := _) (rs := _) (et := 94) (et' := 96) (K := kS96) (hs := [(none, ([] : List S96).length, 0)]) (xs := ([([] : List S96)] : List (List S96))) ⟨rfl, trivial⟩ (St.re hS [1, 2] [] rfl sub_self)) rfl
        refine ED.one 7 7 #[true, true, true, true, true, true, true, true, true, true, true, true, true, true, true, true, false, false, false, false, false, false, false] (by kernel_rfl) (by kernel_rfl) (by kernel_rfl) (EO.appendDeep hS 89 89 24 3 0 kS96 b2 b3 b1 rfl (some ⟨y2, 0, none⟩) 1 ([([] : List S96)] : List (List S96)) rfl a2 b9 (fun d1 g7 => Ass.deep 94 96 kS96 d1 g7 a2 :: Ass.own 3 (Kd.int .i64) (some ⟨y3, 0, none⟩) 1 a9 :: Ass.box 91 a1 [.slice b2 b1.length b3, .slice a7 a6.length a8] :: Ass.own 3 (Kd.int .i64) a7 a8 a6 :: os) 25 (by kernel_rfl) (by kernel_rfl) (by kernel_rfl) (by kernel_rfl) b8 (fun _ _ => rfl) ?_)
        intro d1 g7 w hS
        have hC : Core B [] [Ro.sl (Kd.int .i64) (some a4) a3 a0, Ro.sl (Kd.int .i64) A12 C13 l11] _ := ⟨_, _, hS⟩
        refine ⟨hC, ?_⟩
        refine ED.one 16 6 #[true, true, true, true, true, true, true, true, true, true, true, true, true, true, true, true, true, false, false, false, false, false, false] (by kernel_rfl) (by kernel_rfl) (by kernel_rfl) (EO.append hS 66 66 3 8 3 (Kd.int .i64) a7 a8 a6 rfl (some ⟨y3, 0, none⟩) 1 a9 (Rd.own 1 3 rfl) a5 b7 (fun n5 t5 => Ass.deep 94 96 kS96 d1 g7 a2 :: Ass.own 3 (Kd.int .i64) (some ⟨y3, 0, none⟩) 1 a9 :: Ass.box 91 a1 [.slice b2 b1.length b3, .slice a7 a6.length a8] :: Ass.own 3 (Kd.int .i64) n5 t5 a5 :: os) 34 (by kernel_rfl) (by kernel_rfl) (by kernel_rfl) (by kernel_rfl) b6 (fun _ _ => rfl) ?_)
        intro n5 t5 w hS
        have hC : Core B [] [Ro.sl (Kd.int .i64) (some a4) a3 a0, Ro.sl (Kd.int .i64) A12 C13 l11] _ := ⟨_, _, hS⟩
        refine ⟨hC, ?_⟩
        refine ED.quick hN hF hC [17, 18] [3, 12, 13, 14, 19, 25, 34, 36] 4 [(3, .pointer (some ⟨a1, 0, none⟩)), (12, .slice (some a4) a0.length a3), (13, .int .i64 (a0.length : Int)), (14, .int .i64 b0), (19, .pointer (some ⟨a1, 0, none⟩)), (25, .slice d1 a2.length g7), (34, .slice n5 a5.length t5), (36, .pointer (some ⟨a1, 0, none⟩))] #[true, true, true, true, true, true, true, true, true, true, true, true, true, true, true, true, true, true, true, false, false, false, false] (by kernel_rfl) (by kernel_rfl) ?_
        refine ED.one 19 3 #[true, true, true, true, true, true, true, true, true, true, true, true, true, true, true, true, true, true, true, true, false, false, false] (by kernel_rfl) (by kernel_rfl) (by kernel_rfl) (EO.storeBox (os' := Ass.deep 94 96 kS96 d1 g7 a2 :: Ass.own 3 (Kd.int .i64) (some ⟨y3, 0, none⟩) 1 a9 :: Ass.box 91 a1 [.slice d1 a2.length g7, .slice a7 a6.length a8] :: Ass.own 3 (Kd.int .i64) n5 t5 a5 :: os) hS 2 rfl 89 0 (.slice d1 a2.length g7) [.slice d1 a2.length g7, .slice a7 a6.length a8] (by kernel_rfl) (by kernel_rfl) (by kernel_rfl) (by kernel_rfl) (by kernel_rfl) (by kernel_rfl) rfl rfl ?_)
        intro w hS
        have hC : Core B [] [Ro.sl (Kd.int .i64) (some a4) a3 a0, Ro.sl (Kd.int .i64) A12 C13 l11] _ := ⟨_, _, hS⟩
        refine ⟨hC, ?_⟩
        refine ED.quick hN hF hC [20, 21] [3, 12, 13, 14, 34, 38] 1 [(3, .pointer (some ⟨a1, 0, none⟩)), (12, .slice (some a4) a0.length a3), (13, .int .i64 (a0.length : Int)), (14, .int .i64 b0), (34, .slice n5 a5.length t5), (38, .pointer (some ⟨a1, 1, none⟩))] #[true, true, true, true, true, true, true, true, true, true, true, true, true, true, true, true, true, true, true, true, true, true, false] (by kernel_rfl) (by kernel_rfl) ?_
        refine ED.one 22 0 #[true, true, true, true, true, true, true, true, true, true, true, true, true, true, true, true, true, true, true, true, true, true, true] (by kernel_rfl) (by kernel_rfl) (by kernel_rfl) (EO.storeBox (os' := Ass.deep 94 96 kS96 d1 g7 a2 :: Ass.own 3 (Kd.int .i64) (some ⟨y3, 0, none⟩) 1 a9 :: Ass.box 91 a1 [.slice d1 a2.length g7, .slice n5 a5.length t5] :: Ass.own 3 (Kd.int .i64) n5 t5 a5 :: os) hS 2 rfl 66 1 (.slice n5 a5.length t5) [.slice d1 a2.length g7, .slice n5 a5.length t5] (by kernel_rfl) (by kernel_rfl) (by kernel_rfl) (by kernel_rfl) (by kernel_rfl) (by kernel_rfl) rfl rfl ?_)
        intro w hS
        have hC : Core B [] [Ro.sl (Kd.int .i64) (some a4) a3 a0, Ro.sl (Kd.int .i64) A12 C13 l11] _ := ⟨_, _, hS⟩
        refine ⟨hC, ?_⟩
        refine ED.done (by kernel_rfl) ?_
        refine EQ.to ?_
        refine EQ.keep [3, 12, 13, 14] [(3, .pointer (some ⟨a1, 0, none⟩)), (12, .slice (some a4) a0.length a3), (13, .int .i64 (a0.length : Int)), (14, .int .i64 b0)] (by kernel_rfl) ?_
        exact fun a ha => ⟨(some ⟨y3, 0, none⟩), 1, d1, g7, n5, t5, ha, (hS.re [3, 3, 2, 3] [] rfl (sub_cons 0 rfl (sub_cons 1 rfl (sub_tail (sub_tail (sub_self))))))⟩
      ·refine EO.lit hS (Kd.int .i64) 3 66 1 #[(0, .int .i64 (mn (mx (a0.getD b0.toNat 0) 0) 4096))] [.int .i64 (mn (mx (a0.getD b0.toNat 0) 0) 4096)] a9 33 (by kernel_rfl) (by kernel_rfl) (by kernel_rfl) (fun _ => (by kernel_rfl)) (by rw [b5]; rfl) (by kernel_rfl) (fun w G hr => (by rw [b5]; exact ⟨[.int .i64 (mn (mx (a0.getD b0.toNat 0) 0) 4096)], [], rfl, rfl, rfl⟩)) ?_
       intro c7 w hS
       have hC : Core B [] [Ro.sl (Kd.int .i64) (some a4) a3 a0, Ro.sl (Kd.int .i64) A12 C13 l11] _ := ⟨_, _, hS⟩
       refine ⟨hC, ?_⟩
       refine ED.at' #[true, true, true, true, true, true, true, false, true, true, true, false, true, true, true, true, false, false, false, false, false, false, false] (by kernel_rfl) ?_
       refine ED.two 7 11 8 (by kernel_rfl) (by kernel_rfl) ?_ ?_
       ·have hS := St.as (os' := Ass.deep 94 96 kS96 (some ⟨y2, 0, none⟩) 1 ([([] : List S96)] : List (List S96)) :: Ass.own 3 (Kd.int .i64) (some ⟨c7, 0, none⟩) 1 a9 :: Ass.box 91 a1 [.slice b2 b1.length b3, .slice a7 a6.length a8] :: Ass.deep 94 96 kS96 b2 b3 b1 :: Ass.own 3 (Kd.int .i64) a7 a8 a6 :: os) (St.fold (B := B) (os := _) (rs := _) (et := 94) (et' := 96) (K := kS96) (hs := [(none, ([] : List S96).length, 0)]) (xs := ([([] : List S96)] : List (List S96))) ⟨rfl, trivial⟩ (St.re hS [1, 2] [] rfl sub_self)) rfl
        refine EO.appendDeep hS 89 89 24 3 0 kS96 b2 b3 b1 rfl (some ⟨y2, 0, none⟩) 1 ([([] : List S96)] : List (List S96)) rfl a2 b9 (fun d2 g8 => Ass.deep 94 96 kS96 d2 g8 a2 :: Ass.own 3 (Kd.int .i64) (some ⟨c7, 0, none⟩) 1 a9 :: Ass.box 91 a1 [.slice b2 b1.length b3, .slice a7 a6.length a8] :: Ass.own 3 (Kd.int .i64) a7 a8 a6 :: os) 25 (by kernel_rfl) (by kernel_rfl) (by kernel_rfl) (by kernel_rfl) b8 (fun _ _ => rfl) ?_
        intro d2 g8 w hS
        have hC : Core B [] [Ro.sl (Kd.int .i64) (some a4) a3 a0, Ro.sl (Kd.int .i64) A12 C13 l11] _ := ⟨_, _, hS⟩
        refine ⟨hC, ?_⟩
        refine ED.at' #[true, true, true, true, true, true, true, true, true, true, true, false, true, true, true, true, false, false, false, false, false, false, false] (by kernel_rfl) ?_
        refine ED.one 11 7 #[true, true, true, true, true, true, true, true, true, true, true, true, true, true, true, true, false, false, false, false, false, false, false] (by kernel_rfl) (by kernel_rfl) (by kernel_rfl) (EO.Y (YO.loadBox hS 2 rfl 66 1 1 (.slice a7 a6.length a8) 29 (by kernel_rfl) (by kernel_rfl) (by kernel_rfl) (by kernel_rfl)) ?_)
        have hC : Core B [] [Ro.sl (Kd.int .i64) (some a4) a3 a0, Ro.sl (Kd.int .i64) A12 C13 l11] _ := ⟨_, _, hS⟩
        refine ⟨hC, ?_⟩
        refine ED.one 16 6 #[true, true, true, true, true, true, true, true, true, true, true, true, true, true, true, true, true, false, false, false, false, false, false] (by kernel_rfl) (by kernel_rfl) (by kernel_rfl) (EO.append hS 66 66 3 8 3 (Kd.int .i64) a7 a8 a6 rfl (some ⟨c7, 0, none⟩) 1 a9 (Rd.own 1 3 rfl) a5 b7 (fun n6 t6 => Ass.deep 94 96 kS96 d2 g8 a2 :: Ass.own 3 (Kd.int .i64) (some ⟨c7, 0, none⟩) 1 a9 :: Ass.box 91 a1 [.slice b2 b1.length b3, .slice a7 a6.length a8] :: Ass.own 3 (Kd.int .i64) n6 t6 a5 :: os) 34 (by kernel_rfl) (by kernel_rfl) (by kernel_rfl) (by kernel_rfl) b6 (fun _ _ => rfl) ?_)
        intro n6 t6 w hS
        have hC : Core B [] [Ro.sl (Kd.int .i64) (some a4) a3 a0, Ro.sl (Kd.int .i64) A12 C13 l11] _ := ⟨_, _, hS⟩
        refine ⟨hC, ?_⟩
        refine ED.quick hN hF hC [17, 18] [3, 12, 13, 14, 19, 25, 34, 36] 4 [(3, .pointer (some ⟨a1, 0, none⟩)), (12, .slice (some a4) a0.length a3), (13, .int .i64 (a0.length : Int)), (14, .int .i64 b0), (19, .pointer (some ⟨a1, 0, none⟩)), (25, .slice d2 a2.length g8), (34, .slice n6 a5.length t6), (36, .pointer (some ⟨a1, 0, none⟩))] #[true, true, true, true, true, true, true, true, true, true, true, true, true, true, true, true, true, true, true, false, false, false, false] (by kernel_rfl) (by kernel_rfl) ?_
        refine ED.one 19 3 #[true, true, true, true, true, true, true, true, true, true, true, true, true, true, true, true, true, true, true, true, false, false, false] (by kernel_rfl) (by kernel_rfl) (by kernel_rfl) (EO.storeBox (os' := Ass.deep 94 96 kS96 d2 g8 a2 :: Ass.own 3 (Kd.int .i64) (some ⟨c7, 0, none⟩) 1 a9 :: Ass.box 91 a1 [.slice d2 a2.length g8, .slice a7 a6.length a8] :: Ass.own 3 (Kd.int .i64) n6 t6 a5 :: os) hS 2 rfl 89 0 (.slice d2 a2.length g8) [.slice d2 a2.length g8, .slice a7 a6.length a8] (by kernel_rfl) (by kernel_rfl) (by kernel_rfl) (by kernel_rfl) (by kernel_rfl) (by kernel_rfl) rfl rfl ?_)
        intro w hS
        have hC : Core B [] [Ro.sl (Kd.int .i64) (some a4) a3 a0, Ro.sl (Kd.int .i64) A12 C13 l11] _ := ⟨_, _, hS⟩
        refine ⟨hC, ?_⟩
        refine ED.quick hN hF hC [20, 21] [3, 12, 13, 14, 34, 38] 1 [(3, .pointer (some ⟨a1, 0, none⟩)), (12, .slice (some a4) a0.length a3), (13, .int .i64 (a0.length : Int)), (14, .int .i64 b0), (34, .slice n6 a5.length t6), (38, .pointer (some ⟨a1, 1, none⟩))] #[true, true, true, true, true, true, true, true, true, true, true, true, true, true, true, true, true, true, true, true, true, true, false] (by kernel_rfl) (by kernel_rfl) ?_
        refine ED.one 22 0 #[true, true, true, true, true, true, true, true, true, true, true, true, true, true, true, true, true, true, true, true, true, true, true] (by kernel_rfl) (by kernel_rfl) (by kernel_rfl) (EO.storeBox (os' := Ass.deep 94 96 kS96 d2 g8 a2 :: Ass.own 3 (Kd.int .i64) (some ⟨c7, 0, none⟩) 1 a9 :: Ass.box 91 a1 [.slice d2 a2.length g8, .slice n6 a5.length t6] :: Ass.own 3 (Kd.int .i64) n6 t6 a5 :: os) hS 2 rfl 66 1 (.slice n6 a5.length t6) [.slice d2 a2.length g8, .slice n6 a5.length t6] (by kernel_rfl) (by kernel_rfl) (by kernel_rfl) (by kernel_rfl) (by kernel_rfl) (by kernel_rfl) rfl rfl ?_)
        intro w hS
        have hC : Core B [] [Ro.sl (Kd.int .i64) (some a4) a3 a0, Ro.sl (Kd.int .i64) A12 C13 l11] _ := ⟨_, _, hS⟩
        refine ⟨hC, ?_⟩
        refine ED.done (by kernel_rfl) ?_
        refine EQ.to ?_
        refine EQ.keep [3, 12, 13, 14] [(3, .pointer (some ⟨a1, 0, none⟩)), (12, .slice (some a4) a0.length a3), (13, .int .i64 (a0.length : Int)), (14, .int .i64 b0)] (by kernel_rfl) ?_
        exact fun a ha => ⟨(some ⟨c7, 0, none⟩), 1, d2, g8, n6, t6, ha, (hS.re [3, 3, 2, 3] [] rfl (sub_cons 0 rfl (sub_cons 1 rfl (sub_tail (sub_tail (sub_self))))))⟩
       ·refine EO.Y (YO.loadBox hS 3 rfl 66 1 1 (.slice a7 a6.length a8) 29 (by kernel_rfl) (by kernel_rfl) (by kernel_rfl) (by kernel_rfl)) ?_
        have hC : Core B [] [Ro.sl (Kd.int .i64) (some a4) a3 a0, Ro.sl (Kd.int .i64) A12 C13 l11] _ := ⟨_, _, hS⟩
        refine ⟨hC, ?_⟩
        refine ED.at' #[true, true, true, true, true, true, true, false, true, true, true, true, true, true, true, true, false, false, false, false, false, false, false] (by kernel_rfl) ?_
        have hS := St.as (os' := Ass.deep 94 96 kS96 (some ⟨y2, 0, none⟩) 1 ([([] : List S96)] : List (List S96)) :: Ass.own 3 (Kd.int .i64) (some ⟨c7, 0, none⟩) 1 a9 :: Ass.box 91 a1 [.slice b2 b1.length b3, .slice a7 a6.length a8] :: Ass.deep 94 96 kS96 b2 b3 b1 :: Ass.own 3 (Kd.int .i64) a7 a8 a6 :: os) (St.fold (B := B) (os := _) (rs := _) (et := 94) (et' := 96) (K := kS96) (hs := [(none, ([] : List S96).length, 0)]) (xs := ([([] : List S96)] : List (List S96))) ⟨rfl, trivial⟩ (St.re hS [1, 2] [] rfl sub_self)) rfl
        refine ED.one 7 7 #[true, true, true, true, true, true, true, true, true, true, true, true, true, true, true, true, false, false, false, false, false, false, false] (by kernel_rfl) (by kernel_rfl) (by kernel_rfl) (EO.appendDeep hS 89 89 24 3 0 kS96 b2 b3 b1 rfl (some ⟨y2, 0, none⟩) 1 ([([] : List S96)] : List (List S96)) rfl a2 b9 (fun d3 g9 => Ass.deep 94 96 kS96 d3 g9 a2 :: Ass.own 3 (Kd.int .i64) (some ⟨c7, 0, none⟩) 1 a9 :: Ass.box 91 a1 [.slice b2 b1.length b3, .slice a7 a6.length a8] :: Ass.own 3 (Kd.int .i64) a7 a8 a6 :: os) 25 (by kernel_rfl) (by kernel_rfl) (by kernel_rfl) (by kernel_rfl) b8 (fun _ _ => rfl) ?_)
        intro d3 g9 w hS
        have hC : Core B [] [Ro.sl (Kd.int .i64) (some a4) a3 a0, Ro.sl (Kd.int .i64) A12 C13 l11] _ := ⟨_, _, hS⟩
        refine ⟨hC, ?_⟩
        refine ED.one 16 6 #[true, true, true, true, true, true, true, true, true, true, true, true, true, true, true, true, true, false, false, false, false, false, false] (by kernel_rfl) (by kernel_rfl) (by kernel_rfl) (EO.append hS 66 66 3 8 3 (Kd.int .i64) a7 a8 a6 rfl (some ⟨c7, 0, none⟩) 1 a9 (Rd.own 1 3 rfl) a5 b7 (fun n7 t7 => Ass.deep 94 96 kS96 d3 g9 a2 :: Ass.own 3 (Kd.int .i64) (some ⟨c7, 0, none⟩) 1 a9 :: Ass.box 91 a1 [.slice b2 b1.length b3, .slice a7 a6.length a8] :: Ass.own 3 (Kd.int .i64) n7 t7 a5 :: os) 34 (by kernel_rfl) (by kernel_rfl) (by kernel_rfl) (by kernel_rfl) b6 (fun _ _ => rfl) ?_)
        intro n7 t7 w hS
        have hC : Core B [] [Ro.sl (Kd.int .i64) (some a4) a3 a0, Ro.sl (Kd.int .i64) A12 C13 l11] _ := ⟨_, _, hS⟩
        refine ⟨hC, ?_⟩
        refine ED.quick hN hF hC [17, 18] [3, 12, 13, 14, 19, 25, 34, 36] 4 [(3, .pointer (some ⟨a1, 0, none⟩)), (12, .slice (some a4) a0.length a3), (13, .int .i64 (a0.length : Int)), (14, .int .i64 b0), (19, .pointer (some ⟨a1, 0, none⟩)), (25, .slice d3 a2.length g9), (34, .slice n7 a5.length t7), (36, .pointer (some ⟨a1, 0, none⟩))] #[true, true, true, true, true, true, true, true, true, true, true, true, true, true, true, true, true, true, true, false, false, false, false] (by kernel_rfl) (by kernel_rfl) ?_
        refine ED.one 19 3 #[true, true, true, true, true, true, true, true, true, true, true, true, true, true, true, true, true, true, true, true, false, false, false] (by kernel_rfl) (by kernel_rfl) (by kernel_rfl) (EO.storeBox (os' := Ass.deep 94 96 kS96 d3 g9 a2 :: Ass.own 3 (Kd.int .i64) (some ⟨c7, 0, none⟩) 1 a9 :: Ass.box 91 a1 [.slice d3 a2.length g9, .slice a7 a6.length a8] :: Ass.own 3 (Kd.int .i64) n7 t7 a5 :: os) hS 2 rfl 89 0 (.slice d3 a2.length g9) [.slice d3 a2.length g9, .slice a7 a6.length a8] (by kernel_rfl) (by kernel_rfl) (by kernel_rfl) (by kernel_rfl) (by kernel_rfl) (by kernel_rfl) rfl rfl ?_)
        intro w hS
        have hC : Core B [] [Ro.sl (Kd.int .i64) (some a4) a3 a0, Ro.sl (Kd.int .i64) A12 C13 l11] _ := ⟨_, _, hS⟩
        refine ⟨hC, ?_⟩
        refine ED.quick hN hF hC [20, 21] [3, 12, 13, 14, 34, 38] 1 [(3, .pointer (some ⟨a1, 0, none⟩)), (12, .slice (some a4) a0.length a3), (13, .int .i64 (a0.length : Int)), (14, .int .i64 b0), (34, .slice n7 a5.length t7), (38, .pointer (some ⟨a1, 1, none⟩))] #[true, true, true, true, true, true, true, true, true, true, true, true, true, true, true, true, true, true, true, true, true, true, false] (by kernel_rfl) (by kernel_rfl) ?_
        refine ED.one 22 0 #[true, true, true, true, true, true, true, true, true, true, true, true, true, true, true, true, true, true, true, true, true, true, true] (by kernel_rfl) (by kernel_rfl) (by kernel_rfl) (EO.storeBox (os' := Ass.deep 94 96 kS96 d3 g9 a2 :: Ass.own 3 (Kd.int .i64) (some ⟨c7, 0, none⟩) 1 a9 :: Ass.box 91 a1 [.slice d3 a2.length g9, .slice n7 a5.length t7] :: Ass.own 3 (Kd.int .i64) n7 t7 a5 :: os) hS 2 rfl 66 1 (.slice n7 a5.length t7) [.slice d3 a2.length g9, .slice n7 a5.length t7] (by kernel_rfl) (by kernel_rfl) (by kernel_rfl) (by kernel_rfl) (by kernel_rfl) (by kernel_rfl) rfl rfl ?_)
        intro w hS
        have hC : Core B [] [Ro.sl (Kd.int .i64) (some a4) a3 a0, Ro.sl (Kd.int .i64) A12 C13 l11] _ := ⟨_, _, hS⟩
        refine ⟨hC, ?_⟩
        refine ED.done (by kernel_rfl) ?_
        refine EQ.to ?_
        refine EQ.keep [3, 12, 13, 14] [(3, .pointer (some ⟨a1, 0, none⟩)), (12, .slice (some a4) a0.length a3), (13, .int .i64 (a0.length : Int)), (14, .int .i64 b0)] (by kernel_rfl) ?_
        exact fun a ha => ⟨(some ⟨c7, 0, none⟩), 1, d3, g9, n7, t7, ha, (hS.re [3, 3, 2, 3] [] rfl (sub_cons 0 rfl (sub_cons 1 rfl (sub_tail (sub_tail (sub_self))))))⟩
     ·refine EO.Y (YO.loadBox hS 0 rfl 66 1 1 (.slice a7 a6.length a8) 29 (by kernel_rfl) (by kernel_rfl) (by kernel_rfl) (by kernel_rfl)) ?_
      have hC : Core B [] [Ro.sl (Kd.int .i64) (some a4) a3 a0, Ro.sl (Kd.int .i64) A12 C13 l11] _ := ⟨_, _, hS⟩
      refine ⟨hC, ?_⟩
      refine ED.at' #[true, true, true, true, true, true, false, false, true, true, true, true, true, true, true, false, false, false, false, false, false, false, false] (by kernel_rfl) ?_
      refine ED.two 6 15 9 (by kernel_rfl) (by kernel_rfl) ?_ ?_
      ·refine EO.lit (xs := ([(none, ([] : List S96).length, 0)] : List Hdr)) hS Kd.hdr 94 89 1 #[(0, .slice none ([] : List S96).length 0)] [.slice none ([] : List S96).length 0] 24 (by kernel_rfl) (by kernel_rfl) (by kernel_rfl) (fun _ => (by kernel_rfl)) rfl (by kernel_rfl) (fun w G hr => ⟨[.slice none ([] : List S96).length 0], [], rfl, rfl, rfl⟩) ?_
       intro B1 w hS
       have hS := St.nilO hS 96 kS96
       have hC : Core B [] [Ro.sl (Kd.int .i64) (some a4) a3 a0, Ro.sl (Kd.int .i64) A12 C13 l11] _ := ⟨_, _, hS⟩
       refine ⟨hC, ?_⟩
       refine ED.at' #[true, true, true, true, true, true, true, false, true, true, true, true, true, true, true, false, false, false, false, false, false, false, false] (by kernel_rfl) ?_
       refine ED.two 7 15 8 (by kernel_rfl) (by kernel_rfl) ?_ ?_
       ·have hS := St.as (os' := Ass.deep 94 96 kS96 (some ⟨B1, 0, none⟩) 1 ([([] : List S96)] : List (List S96)) :: Ass.box 91 a1 [.slice b2 b1.length b3, .slice a7 a6.length a8] :: Ass.deep 94 96 kS96 b2 b3 b1 :: Ass.own 3 (Kd.int .i64) a7 a8 a6 :: os) (St.fold (B := B) (os := _) (rs := _) (et := 94) (et' := 96) (K := kS96) (hs := [(none, ([] : List S96).length, 0)]) (xs := ([([] : List S96)] : List (List S96))) ⟨rfl, trivial⟩ (St.re hS [0, 1] [] rfl sub_self)) rfl
        refine EO.appendDeep hS 89 89 24 2 0 kS96 b2 b3 b1 rfl (some ⟨B1, 0, none⟩) 1 ([([] : List S96)] : List (List S96)) rfl a2 b9 (fun d4 i0 => Ass.deep 94 96 kS96 d4 i0 a2 :: Ass.box 91 a1 [.slice b2 b1.length b3, .slice a7 a6.length a8] :: Ass.own 3 (Kd.int .i64) a7 a8 a6 :: os) 25 (by kernel_rfl) (by kernel_rfl) (by kernel_rfl) (by kernel_rfl) b8 (fun _ _ => rfl) ?_
        intro d4 i0 w hS
        have hC : Core B [] [Ro.sl (Kd.int .i64) (some a4) a3 a0, Ro.sl (Kd.int .i64) A12 C13 l11] _ := ⟨_, _, hS⟩
        refine ⟨hC, ?_⟩
        refine ED.at' #[true, true, true, true, true, true, true, true, true, true, true, true, true, true, true, false, false, false, false, false, false, false, false] (by kernel_rfl) ?_
        refine ED.one 15 7 #[true, true, true, true, true, true, true, true, true, true, true, true, true, true, true, true, false, false, false, false, false, false, false] (by kernel_rfl) (by kernel_rfl) (by kernel_rfl) (EO.lit hS (Kd.int .i64) 3 66 1 #[(0, .int .i64 (mn (mx (a0.getD b0.toNat 0) 0) 4096))] [.int .i64 (mn (mx (a0.getD b0.toNat 0) 0) 4096)] a9 33 (by kernel_rfl) (by kernel_rfl) (by kernel_rfl) (fun _ => (by kernel_rfl)) (by rw [b5]; rfl) (by kernel_rfl) (fun w G hr => (by rw [b5]; exact ⟨[.int .i64 (mn (mx (a0.getD b0.toNat 0) 0) 4096)], [], rfl, rfl, rfl⟩)) ?_)
        intro A0 w hS
        have hC : Core B [] [Ro.sl (Kd.int .i64) (some a4) a3 a0, Ro.sl (Kd.int .i64) A12 C13 l11] _ := ⟨_, _, hS⟩
        refine ⟨hC, ?_⟩
        refine ED.one 16 6 #[true, true, true, true, true, true, true, true, true, true, true, true, true, true, true, true, true, false, false, false, false, false, false] (by kernel_rfl) (by kernel_rfl) (by kernel_rfl) (EO.append hS 66 66 3 8 3 (Kd.int .i64) a7 a8 a6 rfl (some ⟨A0, 0, none⟩) 1 a9 (Rd.own 0 3 rfl) a5 b7 (fun n8 t8 => Ass.own 3 (Kd.int .i64) (some ⟨A0, 0, none⟩) 1 a9 :: Ass.deep 94 96 kS96 d4 i0 a2 :: Ass.box 91 a1 [.slice b2 b1.length b3, .slice a7 a6.length a8] :: Ass.own 3 (Kd.int .i64) n8 t8 a5 :: os) 34 (by kernel_rfl) (by kernel_rfl) (by kernel_rfl) (by kernel_rfl) b6 (fun _ _ => rfl) ?_)
        intro n8 t8 w hS
        have hC : Core B [] [Ro.sl (Kd.int .i64) (some a4) a3 a0, Ro.sl (Kd.int .i64) A12 C13 l11] _ := ⟨_, _, hS⟩
        refine ⟨hC, ?_⟩
        refine ED.quick hN hF hC [17, 18] [3, 12, 13, 14, 19, 25, 34, 36] 4 [(3, .pointer (some ⟨a1, 0, none⟩)), (12, .slice (some a4) a0.length a3), (13, .int .i64 (a0.length : Int)), (14, .int .i64 b0), (19, .pointer (some ⟨a1, 0, none⟩)), (25, .slice d4 a2.length i0), (34, .slice n8 a5.length t8), (36, .pointer (some ⟨a1, 0, none⟩))] #[true, true, true, true, true, true, true, true, true, true, true, true, true, true, true, true, true, true, true, false, false, false, false] (by kernel_rfl) (by kernel_rfl) ?_
        refine ED.one 19 3 #[true, true, true, true, true, true, true, true, true, true, true, true, true, true, true, true, true, true, true, true, false, false, false] (by kernel_rfl) (by kernel_rfl) (by kernel_rfl) (EO.storeBox (os' := Ass.own 3 (Kd.int .i64) (some ⟨A0, 0, none⟩) 1 a9 :: Ass.deep 94 96 kS96 d4 i0 a2 :: Ass.box 91 a1 [.slice d4 a2.length i0, .slice a7 a6.length a8] :: Ass.own 3 (Kd.int .i64) n8 t8 a5 :: os) hS 2 rfl 89 0 (.slice d4 a2.length i0) [.slice d4 a2.length i0, .slice a7 a6.length a8] (by kernel_rfl) (by kernel_rfl) (by kernel_rfl) (by kernel_rfl) (by kernel_rfl) (by kernel_rfl) rfl rfl ?_)
        intro w hS
        have hC : Core B [] [Ro.sl (Kd.int .i64) (some a4) a3 a0, Ro.sl (Kd.int .i64) A12 C13 l11] _ := ⟨_, _, hS⟩
        refine ⟨hC, ?_⟩
        refine ED.quick hN hF hC [20, 21] [3, 12, 13, 14, 34, 38] 1 [(3, .pointer (some ⟨a1, 0, none⟩)), (12, .slice (some a4) a0.length a3), (13, .int .i64 (a0.length : Int)), (14, .int .i64 b0), (34, .slice n8 a5.length t8), (38, .pointer (some ⟨a1, 1, none⟩))] #[true, true, true, true, true, true, true, true, true, true, true, true, true, true, true, true, true, true, true, true, true, true, false] (by kernel_rfl) (by kernel_rfl) ?_
        refine ED.one 22 0 #[true, true, true, true, true, true, true, true, true, true, true, true, true, true, true, true, true, true, true, true, true, true, true] (by kernel_rfl) (by kernel_rfl) (by kernel_rfl) (EO.storeBox (os' := Ass.own 3 (Kd.int .i64) (some ⟨A0, 0, none⟩) 1 a9 :: Ass.deep 94 96 kS96 d4 i0 a2 :: Ass.box 91 a1 [.slice d4 a2.length i0, .slice n8 a5.length t8] :: Ass.own 3 (Kd.int .i64) n8 t8 a5 :: os) hS 2 rfl 66 1 (.slice n8 a5.length t8) [.slice d4 a2.length i0, .slice n8 a5.length t8] (by kernel_rfl) (by kernel_rfl) (by kernel_rfl) (by kernel_rfl) (by kernel_rfl) (by kernel_rfl) rfl rfl ?_)
        intro w hS
        have hC : Core B [] [Ro.sl (Kd.int .i64) (some a4) a3 a0, Ro.sl (Kd.int .i64) A12 C13 l11] _ := ⟨_, _, hS⟩
        refine ⟨hC, ?_⟩
        refine ED.done (by kernel_rfl) ?_
        refine EQ.to ?_
        refine EQ.keep [3, 12, 13, 14] [(3, .pointer (some ⟨a1, 0, none⟩)), (12, .slice (some a4) a0.length a3), (13, .int .i64 (a0.length : Int)), (14, .int .i64 b0)] (by kernel_rfl) ?_
        exact fun a ha => ⟨(some ⟨A0, 0, none⟩), 1, d4, i0, n8, t8, ha, (hS.re [3, 3, 3, 3] [] rfl (sub_cons 0 rfl (sub_cons 1 rfl (sub_tail (sub_tail (sub_self))))))⟩
       ·refine EO.lit hS (Kd.int .i64) 3 66 1 #[(0, .int .i64 (mn (mx (a0.getD b0.toNat 0) 0) 4096))] [.int .i64 (mn (mx (a0.getD b0.toNat 0) 0) 4096)] a9 33 (by kernel_rfl) (by kernel_rfl) (by kernel_rfl) (fun _ => (by kernel_rfl)) (by rw [b5]; rfl) (by kernel_rfl) (fun w G hr => (by rw [b5]; exact ⟨[.int .i64 (mn (mx (a0.getD b0.toNat 0) 0) 4096)], [], rfl, rfl, rfl⟩)) ?_
        intro y4 w hS
        have hC : Core B [] [Ro.sl (Kd.int .i64) (some a4) a3 a0, Ro.sl (Kd.int .i64) A12 C13 l11] _ := ⟨_, _, hS⟩
        refine ⟨hC, ?_⟩
        refine ED.at' #[true, true, true, true, true, true, true, false, true, true, true, true, true, true, true, true, false, false, false, false, false, false, false] (by kernel_rfl) ?_
        have hS := St.as (os' := Ass.deep 94 96 kS96 (some ⟨B1, 0, none⟩) 1 ([([] : List S96)] : List (List S96)) :: Ass.own 3 (Kd.int .i64) (some ⟨y4, 0, none⟩) 1 a9 :: Ass.box 91 a1 [.slice b2 b1.length b3, .slice a7 a6.length a8] :: Ass.deep 94 96 kS96 b2 b3 b1 :: Ass.own 3 (Kd.int .i64) a7 a8 a6 :: os) (St.fold (B := B) (os := _) (rs := _) (et := 94) (et' := 96) (K := kS96) (hs := [(none, ([] : List S96).length, 0)]) (xs := ([([] : List S96)] : List (List S96))) ⟨rfl, trivial⟩ (St.re hS [1, 2] [] rfl sub_self)) rfl
        refine ED.one 7 7 #[true, true, true, true, true, true, true, true, true, true, true, true, true, true, true, true, false, false, false, false, false, false, false] (by kernel_rfl) (by kernel_rfl) (by kernel_rfl) (EO.appendDeep hS 89 89 24 3 0 kS96 b2 b3 b1 rfl (some ⟨B1, 0, none⟩) 1 ([([] : List S96)] : List (List S96)) rfl a2 b9 (fun d5 i1 => Ass.deep 94 96 kS96 d5 i1 a2 :: Ass.own 3 (Kd.int .i64) (some ⟨y4, 0, none⟩) 1 a9 :: Ass.box 91 a1 [.slice b2 b1.length b3, .slice a7 a6.length a8] :: Ass.own 3 (Kd.int .i64) a7 a8 a6 :: os) 25 (by kernel_rfl) (by kernel_rfl) (by kernel_rfl) (by kernel_rfl) b8 (fun _ _ => rfl) ?_)
        intro d5 i1 w hS
        have hC : Core B [] [Ro.sl (Kd.int .i64) (some a4) a3 a0, Ro.sl (Kd.int .i64) A12 C13 l11] _ := ⟨_, _, hS⟩
        refine ⟨hC, ?_⟩
        refine ED.one 16 6 #[true, true, true, true, true, true, true, true, true, true, true, true, true, true, true, true, true, false, false, false, false, false, false] (by kernel_rfl) (by kernel_rfl) (by kernel_rfl) (EO.append hS 66 66 3 8 3 (Kd.int .i64) a7 a8 a6 rfl (some ⟨y4, 0, none⟩) 1 a9 (Rd.own 1 3 rfl) a5 b7 (fun n9 t9 => Ass.deep 94 96 kS96 d5 i1 a2 :: Ass.own 3 (Kd.int .i64) (some ⟨y4, 0, none⟩) 1 a9 :: Ass.box 91 a1 [.slice b2 b1.length b3, .slice a7 a6.length a8] :: Ass.own 3 (Kd.int .i64) n9 t9 a5 :: os) 34 (by kernel_rfl) (by kernel_rfl) (by kernel_rfl) (by kernel_rfl) b6 (fun _ _ => rfl) ?_)
        intro n9 t9 w hS
        have hC : Core B [] [Ro.sl (Kd.int .i64) (some a4) a3 a0, Ro.sl (Kd.int .i64) A12 C13 l11] _ := ⟨_, _, hS⟩
        refine ⟨hC, ?_⟩
        refine ED.quick hN hF hC [17, 18] [3, 12, 13, 14, 19, 25, 34, 36] 4 [(3, .pointer (some ⟨a1, 0, none⟩)), (12, .slice (some a4) a0.length a3), (13, .int .i64 (a0.length : Int)), (14, .int .i64 b0), (19, .pointer (some ⟨a1, 0, none⟩)), (25, .slice d5 a2.length i1), (34, .slice n9 a5.length t9), (36, .pointer (some ⟨a1, 0, none⟩))] #[true, true, true, true, true, true, true, true, true, true, true, true, true, true, true, true, true, true, true, false, false, false, false] (by kernel_rfl) (by kernel_rfl) ?_
        refine ED.one 19 3 #[true, true, true, true, true, true, true, true, true, true, true, true, true, true, true, true, true, true, true, true, false, false, false] (by kernel_rfl) (by kernel_rfl) (by kernel_rfl) (EO.storeBox (os' := Ass.deep 94 96 kS96 d5 i1 a2 :: Ass.own 3 (Kd.int .i64) (some ⟨y4, 0, none⟩) 1 a9 :: Ass.box 91 a1 [.slice d5 a2.length i1, .slice a7 a6.length a8] :: Ass.own 3 (Kd.int .i64) n9 t9 a5 :: os) hS 2 rfl 89 0 (.slice d5 a2.length i1) [.slice d5 a2.length i1, .slice a7 a6.length a8] (by kernel_rfl) (by kernel_rfl) (by kernel_rfl) (by kernel_rfl) (by kernel_rfl) (by kernel_rfl) rfl rfl ?_)
        intro w hS
        have hC : Core B [] [Ro.sl (Kd.int .i64) (some a4) a3 a0, Ro.sl (Kd.int .i64) A12 C13 l11] _ := ⟨_, _, hS⟩
        refine ⟨hC, ?_⟩
        refine ED.quick hN hF hC [20, 21] [3, 12, 13, 14, 34, 38] 1 [(3, .pointer (some ⟨a1, 0, none⟩)), (12, .slice (some a4) a0.length a3), (13, .int .i64 (a0.length : Int)), (14, .int .i64 b0), (34, .slice n9 a5.length t9), (38, .pointer (some ⟨a1, 1, none⟩))] #[true, true, true, true, true, true, true, true, true, true, true, true, true, true, true, true, true, true, true, true, true, true, false] (by kernel_rfl) (by kernel_rfl) ?_
        refine ED.one 22 0 #[true, true, true, true, true, true, true, true, true, true, true, true, true, true, true, true, true, true, true, true, true, true, true] (by kernel_rfl) (by kernel_rfl) (by kernel_rfl) (EO.storeBox (os' := Ass.deep 94 96 kS96 d5 i1 a2 :: Ass.own 3 (Kd.int .i64) (some ⟨y4, 0, none⟩) 1 a9 :: Ass.box 91 a1 [.slice d5 a2.length i1, .slice n9 a5.length t9] :: Ass.own 3 (Kd.int .i64) n9 t9 a5 :: os) hS 2 rfl 66 1 (.slice n9 a5.length t9) [.slice d5 a2.length i1, .slice n9 a5.length t9] (by kernel_rfl) (by kernel_rfl) (by kernel_rfl) (by kernel_rfl) (by kernel_rfl) (by kernel_rfl) rfl rfl ?_)
        intro w hS
        have hC : Core B [] [Ro.sl (Kd.int .i64) (some a4) a3 a0, Ro.sl (Kd.int .i64) A12 C13 l11] _ := ⟨_, _, hS⟩
        refine ⟨hC, ?_⟩
        refine ED.done (by kernel_rfl) ?_
        refine EQ.to ?_
        refine EQ.keep [3, 12, 13, 14] [(3, .pointer (some ⟨a1, 0, none⟩)), (12, .slice (some a4) a0.length a3), (13, .int .i64 (a0.length : Int)), (14, .int .i64 b0)] (by kernel_rfl) ?_
        exact fun a ha => ⟨(some ⟨y4, 0, none⟩), 1, d5, i1, n9, t9, ha, (hS.re [3, 3, 2, 3] [] rfl (sub_cons 0 rfl (sub_cons 1 rfl (sub_tail (sub_tail (sub_self))))))⟩
      ·refine EO.lit hS (Kd.int .i64) 3 66 1 #[(0, .int .i64 (mn (mx (a0.getD b0.toNat 0) 0) 4096))] [.int .i64 (mn (mx (a0.getD b0.toNat 0) 0) 4096)] a9 33 (by kernel_rfl) (by kernel_rfl) (by kernel_rfl) (fun _ => (by kernel_rfl)) (by rw [b5]; rfl) (by kernel_rfl) (fun w G hr => (by rw [b5]; exact ⟨[.int .i64 (mn (mx (a0.getD b0.toNat 0) 0) 4096)], [], rfl, rfl, rfl⟩)) ?_
       intro y5 w hS
       have hC : Core B [] [Ro.sl (Kd.int .i64) (some a4) a3 a0, Ro.sl (Kd.int .i64) A12 C13 l11] _ := ⟨_, _, hS⟩
       refine ⟨hC, ?_⟩
       refine ED.at' #[true, true, true, true, true, true, false, false, true, true, true, true, true, true, true, true, false, false, false, false, false, false, false] (by kernel_rfl) ?_
       refine ED.one 6 8 #[true, true, true, true, true, true, true, false, true, true, true, true, true, true, true, true, false, false, false, false, false, false, false] (by kernel_rfl) (by kernel_rfl) (by kernel_rfl) (EO.lit (xs := ([(none, ([] : List S96).length, 0)] : List Hdr)) hS Kd.hdr 94 89 1 #[(0, .slice none ([] : List S96).length 0)] [.slice none ([] : List S96).length 0] 24 (by kernel_rfl) (by kernel_rfl) (by kernel_rfl) (fun _ => (by kernel_rfl)) rfl (by kernel_rfl) (fun w G hr => ⟨[.slice none ([] : List S96).length 0], [], rfl, rfl, rfl⟩) ?_)
       intro C5 w hS
       have hS := St.nilO hS 96 kS96
       have hC : Core B [] [Ro.sl (Kd.int .i64) (some a4) a3 a0, Ro.sl (Kd.int .i64) A12 C13 l11] _ := ⟨_, _, hS⟩
       refine ⟨hC, ?_⟩
       have hS := St.as (os' := Ass.deep 94 96 kS96 (some ⟨C5, 0, none⟩) 1 ([([] : List S96)] : List (List S96)) :: Ass.own 3 (Kd.int .i64) (some ⟨y5, 0, none⟩) 1 a9 :: Ass.box 91 a1 [.slice b2 b1.length b3, .slice a7 a6.length a8] :: Ass.deep 94 96 kS96 b2 b3 b1 :: Ass.own 3 (Kd.int .i64) a7 a8 a6 :: os) (St.fold (B := B) (os := _) (rs := _) (et := 94) (et' := 96) (K := kS96) (hs := [(none, ([] : List S96).length, 0)]) (xs := ([([] : List S96)] : List (List S96))) ⟨rfl, trivial⟩ (St.re hS [0, 1] [] rfl sub_self)) rfl
       refine ED.one 7 7 #[true, true, true, true, true, true, true, true, true, true, true, true, true, true, true, true, false, false, false, false, false, false, false] (by kernel_rfl) (by kernel_rfl) (by kernel_rfl) (EO.appendDeep hS 89 89 24 3 0 kS96 b2 b3 b1 rfl (some ⟨C5, 0, none⟩) 1 ([([] : List S96)] : List (List S96)) rfl a2 b9 (fun d6 i2 => Ass.deep 94 96 kS96 d6 i2 a2 :: Ass.own 3 (Kd.int .i64) (some ⟨y5, 0, none⟩) 1 a9 :: Ass.box 91 a1 [.slice b2 b1.length b3, .slice a7 a6.length a8] :: Ass.own 3 (Kd.int .i64) a7 a8 a6 :: os) 25 (by kernel_rfl) (by kernel_rfl) (by kernel_rfl) (by kernel_rfl) b8 (fun _ _ => rfl) ?_)
       intro d6 i2 w hS
       have hC : Core B [] [Ro.sl (Kd.int .i64) (some a4) a3 a0, Ro.sl (Kd.int .i64) A12 C13 l11] _ := ⟨_, _, hS⟩
       refine ⟨hC, ?_⟩
       refine ED.one 16 6 #[true, true, true, true, true, true, true, true, true, true, true, true, true, true, true, true, true, false, false, false, false, false, false] (by kernel_rfl) (by kernel_rfl) (by kernel_rfl) (EO.append hS 66 66 3 8 3 (Kd.int .i64) a7 a8 a6 rfl (some ⟨y5, 0, none⟩) 1 a9 (Rd.own 1 3 rfl) a5 b7 (fun o0 u0 => Ass.deep 94 96 kS96 d6 i2 a2 :: Ass.own 3 (Kd.int .i64) (some ⟨y5, 0, none⟩) 1 a9 :: Ass.box 91 a1 [.slice b2 b1.length b3, .slice a7 a6.length a8] :: Ass.own 3 (Kd.int .i64) o0 u0 a5 :: os) 34 (by kernel_rfl) (by kernel_rfl) (by kernel_rfl) (by kernel_rfl) b6 (fun _ _ => rfl) ?_)
       intro o0 u0 w hS
       have hC : Core B [] [Ro.sl (Kd.int .i64) (some a4) a3 a0, Ro.sl (Kd.int .i64) A12 C13 l11] _ := ⟨_, _, hS⟩
       refine ⟨hC, ?_⟩
       refine ED.quick hN hF hC [17, 18] [3, 12, 13, 14, 19, 25, 34, 36] 4 [(3, .pointer (some ⟨a1, 0, none⟩)), (12, .slice (some a4) a0.length a3), (13, .int .i64 (a0.length : Int)), (14, .int .i64 b0), (19, .pointer (some ⟨a1, 0, none⟩)), (25, .slice d6 a2.length i2), (34, .slice o0 a5.length u0), (36, .pointer (some ⟨a1, 0, none⟩))] #[true, true, true, true, true, true, true, true, true, true, true, true, true, true, true, true, true, true, true, false, false, false, false] (by kernel_rfl) (by kernel_rfl) ?_
       refine ED.one 19 3 #[true, true, true, true, true, true, true, true, true, true, true, true, true, true, true, true, true, true, true, true, false, false, false] (by kernel_rfl) (by kernel_rfl) (by kernel_rfl) (EO.storeBox (os' := Ass.deep 94 96 kS96 d6 i2 a2 :: Ass.own 3 (Kd.int .i64) (some ⟨y5, 0, none⟩) 1 a9 :: Ass.box 91 a1 [.slice d6 a2.length i2, .slice a7 a6.length a8] :: Ass.own 3 (Kd.int .i64) o0 u0 a5 :: os) hS 2 rfl 89 0 (.slice d6 a2.length i2) [.slice d6 a2.length i2, .slice a7 a6.length a8] (by kernel_rfl) (by kernel_rfl) (by kernel_rfl) (by kernel_rfl) (by kernel_rfl) (by kernel_rfl) rfl rfl ?_)
       intro w hS
       have hC : Core B [] [Ro.sl (Kd.int .i64) (some a4) a3 a0, Ro.sl (Kd.int .i64) A12 C13 l11] _ := ⟨_, _, hS⟩
       refine ⟨hC, ?_⟩
       refine ED.quick hN hF hC [20, 21] [3, 12, 13, 14, 34, 38] 1 [(3, .pointer (some ⟨a1, 0, none⟩)), (12, .slice (some a4) a0.length a3), (13, .int .i64 (a0.length : Int)), (14, .int .i64 b0), (34, .slice o0 a5.length u0), (38, .pointer (some ⟨a1, 1, none⟩))] #[true, true, true, true, true, true, true, true, true, true, true, true, true, true, true, true, true, true, true, true, true, true, false] (by kernel_rfl) (by kernel_rfl) ?_
       refine ED.one 22 0 #[true, true, true, true, true, true, true, true, true, true, true, true, true, true, true, true, true, true, true, true, true, true, true] (by kernel_rfl) (by kernel_rfl) (by kernel_rfl) (EO.storeBox (os' := Ass.deep 94 96 kS96 d6 i2 a2 :: Ass.own 3 (Kd.int .i64) (some ⟨y5, 0, none⟩) 1 a9 :: Ass.box 91 a1 [.slice d6 a2.length i2, .slice o0 a5.length u0] :: Ass.own 3 (Kd.int .i64) o0 u0 a5 :: os) hS 2 rfl 66 1 (.slice o0 a5.length u0) [.slice d6 a2.length i2, .slice o0 a5.length u0] (by kernel_rfl) (by kernel_rfl) (by kernel_rfl) (by kernel_rfl) (by kernel_rfl) (by kernel_rfl) rfl rfl ?_)
       intro w hS
       have hC : Core B [] [Ro.sl (Kd.int .i64) (some a4) a3 a0, Ro.sl (Kd.int .i64) A12 C13 l11] _ := ⟨_, _, hS⟩
       refine ⟨hC, ?_⟩
       refine ED.done (by kernel_rfl) ?_
       refine EQ.to ?_
       refine EQ.keep [3, 12, 13, 14] [(3, .pointer (some ⟨a1, 0, none⟩)), (12, .slice (some a4) a0.length a3), (13, .int .i64 (a0.length : Int)), (14, .int .i64 b0)] (by kernel_rfl) ?_
       exact fun a ha => ⟨(some ⟨y5, 0, none⟩), 1, d6, i2, o0, u0, ha, (hS.re [3, 3, 2, 3] [] rfl (sub_cons 0 rfl (sub_cons 1 rfl (sub_tail (sub_tail (sub_self))))))⟩
     ·refine EO.lit hS (Kd.int .i64) 3 66 1 #[(0, .int .i64 (mn (mx (a0.getD b0.toNat 0) 0) 4096))] [.int .i64 (mn (mx (a0.getD b0.toNat 0) 0) 4096)] a9 33 (by kernel_rfl) (by kernel_rfl) (by kernel_rfl) (fun _ => (by kernel_rfl)) (by rw [b5]; rfl) (by kernel_rfl) (fun w G hr => (by rw [b5]; exact ⟨[.int .i64 (mn (mx (a0.getD b0.toNat 0) 0) 4096)], [], rfl, rfl, rfl⟩)) ?_
      intro c5 w hS
      have hC : Core B [] [Ro.sl (Kd.int .i64) (some a4) a3 a0, Ro.sl (Kd.int .i64) A12 C13 l11] _ := ⟨_, _, hS⟩
      refine ⟨hC, ?_⟩
      refine ED.at' #[true, true, true, true, true, true, false, false, true, true, true, false, true, true, true, true, false, false, false, false, false, false, false] (by kernel_rfl) ?_
      refine ED.two 6 11 9 (by kernel_rfl) (by kernel_rfl) ?_ ?_
      ·refine EO.lit (xs := ([(none, ([] : List S96).length, 0)] : List Hdr)) hS Kd.hdr 94 89 1 #[(0, .slice none ([] : List S96).length 0)] [.slice none ([] : List S96).length 0] 24 (by kernel_rfl) (by kernel_rfl) (by kernel_rfl) (fun _ => (by kernel_rfl)) rfl (by kernel_rfl) (fun w G hr => ⟨[.slice none ([] : List S96).length 0], [], rfl, rfl, rfl⟩) ?_
       intro B2 w hS
       have hS := St.nilO hS 96 kS96
       have hC : Core B [] [Ro.sl (Kd.int .i64) (some a4) a3 a0, Ro.sl (Kd.int .i64) A12 C13 l11] _ := ⟨_, _, hS⟩
       refine ⟨hC, ?_⟩
       refine ED.at' #[true, true, true, true, true, true, true, false, true, true, true, false, true, true, true, true, false, false, false, false, false, false, false] (by kernel_rfl) ?_
       refine ED.two 7 11 8 (by kernel_rfl) (by kernel_rfl) ?_ ?_
       ·have hS := St.as (os' := Ass.deep 94 96 kS96 (some ⟨B2, 0, none⟩) 1 ([([] : List S96)] : List (List S96)) :: Ass.own 3 (Kd.int .i64) (some ⟨c5, 0, none⟩) 1 a9 :: Ass.box 91 a1 [.slice b2 b1.length b3, .slice a7 a6.length a8] :: Ass.deep 94 96 kS96 b2 b3 b1 :: Ass.own 3 (Kd.int .i64) a7 a8 a6 :: os) (St.fold (B := B) (os := _) (rs := _) (et := 94) (et' := 96) (K := kS96) (hs := [(none, ([] : List S96).length, 0)]) (xs := ([([] : List S96)] : List (List S96))) ⟨rfl, trivial⟩ (St.re hS [0, 1] [] rfl sub_self)) rfl
        refine EO.appendDeep hS 89 89 24 3 0 kS96 b2 b3 b1 rfl (some ⟨B2, 0, none⟩) 1 ([([] : List S96)] : List (List S96)) rfl a2 b9 (fun d7 i3 => Ass.deep 94 96 kS96 d7 i3 a2 :: Ass.own 3 (Kd.int .i64) (some ⟨c5, 0, none⟩) 1 a9 :: Ass.box 91 a1 [.slice b2 b1.length b3, .slice a7 a6.length a8] :: Ass.own 3 (Kd.int .i64) a7 a8 a6 :: os) 25 (by kernel_rfl) (by kernel_rfl) (by kernel_rfl) (by kernel_rfl) b8 (fun _ _ => rfl) ?_
        intro d7 i3 w hS
        have hC : Core B [] [Ro.sl (Kd.int .i64) (some a4) a3 a0, Ro.sl (Kd.int .i64) A12 C13 l11] _ := ⟨_, _, hS⟩
        refine ⟨hC, ?_⟩
        refine ED.at' #[true, true, true, true, true, true, true, true, true, true, true, false, true, true, true, true, false, false, false, false, false, false, false] (by kernel_rfl) ?_
        refine ED.one 11 7 #[true, true, true, true, true, true, true, true, true, true, true, true, true, true, true, true, false, false, false, false, false, false, false] (by kernel_rfl) (by kernel_rfl) (by kernel_rfl) (EO.Y (YO.loadBox hS 2 rfl 66 1 1 (.slice a7 a6.length a8) 29 (by kernel_rfl) (by kernel_rfl) (by kernel_rfl) (by kernel_rfl)) ?_)
        have hC : Core B [] [Ro.sl (Kd.int .i64) (some a4) a3 a0, Ro.sl (Kd.int .i64) A12 C13 l11] _ := ⟨_, _, hS⟩
        refine ⟨hC, ?_⟩
        refine ED.one 16 6 #[true, true, true, true, true, true, true, true, true, true, true, true, true, true, true, true, true, false, false, false, false, false, false] (by kernel_rfl) (by kernel_rfl) (by kernel_rfl) (EO.append hS 66 66 3 8 3 (Kd.int .i64) a7 a8 a6 rfl (some ⟨c5, 0, none⟩) 1 a9 (Rd.own 1 3 rfl) a5 b7 (fun o1 u1 => Ass.deep 94 96 kS96 d7 i3 a2 :: Ass.own 3 (Kd.int .i64) (some ⟨c5, 0, none⟩) 1 a9 :: Ass.box 91 a1 [.slice b2 b1.length b3, .slice a7 a6.length a8] :: Ass.own 3 (Kd.int .i64) o1 u1 a5 :: os) 34 (by kernel_rfl) (by kernel_rfl) (by kernel_rfl) (by kernel_rfl) b6 (fun _ _ => rfl) ?_)
        intro o1 u1 w hS
        have hC : Core B [] [Ro.sl (Kd.int .i64) (some a4) a3 a0, Ro.sl (Kd.int .i64) A12 C13 l11] _ := ⟨_, _, hS⟩
        refine ⟨hC, ?_⟩
        refine ED.quick hN hF hC [17, 18] [3, 12, 13, 14, 19, 25, 34, 36] 4 [(3, .pointer (some ⟨a1, 0, none⟩)), (12, .slice (some a4) a0.length a3), (13, .int .i64 (a0.length : Int)), (14, .int .i64 b0), (19, .pointer (some ⟨a1, 0, none⟩)), (25, .slice d7 a2.length i3), (34, .slice o1 a5.length u1), (36, .pointer (some ⟨a1, 0, none⟩))] #[true, true, true, true, true, true, true, true, true, true, true, true, true, true, true, true, true, true, true, false, false, false, false] (by kernel_rfl) (by kernel_rfl) ?_
        refine ED.one 19 3 #[true, true, true, true, true, true, true, true, true, true, true, true, true, true, true, true, true, true, true, true, false, false, false] (by kernel_rfl) (by kernel_rfl) (by kernel_rfl) (EO.storeBox (os' := Ass.deep 94 96 kS96 d7 i3 a2 :: Ass.own 3 (Kd.int .i64) (some ⟨c5, 0, none⟩) 1 a9 :: Ass.box 91 a1 [.slice d7 a2.length i3, .slice a7 a6.length a8] :: Ass.own 3 (Kd.int .i64) o1 u1 a5 :: os) hS 2 rfl 89 0 (.slice d7 a2.length i3) [.slice d7 a2.length i3, .slice a7 a6.length a8] (by kernel_rfl) (by kernel_rfl) (by kernel_rfl) (by kernel_rfl) (by kernel_rfl) (by kernel_rfl) rfl rfl ?_)
        intro w hS
        have hC : Core B [] [Ro.sl (Kd.int .i64) (some a4) a3 a0, Ro.sl (Kd.int .i64) A12 C13 l11] _ := ⟨_, _, hS⟩
        refine ⟨hC, ?_⟩
        refine ED.quick hN hF hC [20, 21] [3, 12, 13, 14, 34, 38] 1 [(3, .pointer (some ⟨a1, 0, none⟩)), (12, .slice (some a4) a0.length a3), (13, .int .i64 (a0.length : Int)), (14, .int .i64 b0), (34, .slice o1 a5.length u1), (38, .pointer (some ⟨a1, 1, none⟩))] #[true, true, true, true, true, true, true, true, true, true, true, true, true, true, true, true, true, true, true, true, true, true, false] (by kernel_rfl) (by kernel_rfl) ?_
        refine ED.one 22 0 #[true, true, true, true, true, true, true, true, true, true, true, true, true, true, true, true, true, true, true, true, true, true, true] (by kernel_rfl) (by kernel_rfl) (by kernel_rfl) (EO.storeBox (os' := Ass.deep 94 96 kS96 d7 i3 a2 :: Ass.own 3 (Kd.int .i64) (some ⟨c5, 0, none⟩) 1 a9 :: Ass.box 91 a1 [.slice d7 a2.length i3, .slice o1 a5.length u1] :: Ass.own 3 (Kd.int .i64) o1 u1 a5 :: os) hS 2 rfl 66 1 (.slice o1 a5.length u1) [.slice d7 a2.length i3, .slice o1 a5.length u1] (by kernel_rfl) (by kernel_rfl) (by kernel_rfl) (by kernel_rfl) (by kernel_rfl) (by kernel_rfl) rfl rfl ?_)
        intro w hS
        have hC : Core B [] [Ro.sl (Kd.int .i64) (some a4) a3 a0, Ro.sl (Kd.int .i64) A12 C13 l11] _ := ⟨_, _, hS⟩
        refine ⟨hC, ?_⟩
        refine ED.done (by kernel_rfl) ?_
        refine EQ.to ?_
        refine EQ.keep [3, 12, 13, 14] [(3, .pointer (some ⟨a1, 0, none⟩)), (12, .slice (some a4) a0.length a3), (13, .int .i64 (a0.length : Int)), (14, .int .i64 b0)] (by kernel_rfl) ?_
        exact fun a ha => ⟨(some ⟨c5, 0, none⟩), 1, d7, i3, o1, u1, ha, (hS.re [3, 3, 2, 3] [] rfl (sub_cons 0 rfl (sub_cons 1 rfl (sub_tail (sub_tail (sub_self))))))⟩
       ·refine EO.Y (YO.loadBox hS 3 rfl 66 1 1 (.slice a7 a6.length a8) 29 (by kernel_rfl) (by kernel_rfl) (by kernel_rfl) (by kernel_rfl)) ?_
        have hC : Core B [] [Ro.sl (Kd.int .i64) (some a4) a3 a0, Ro.sl (Kd.int .i64) A12 C13 l11] _ := ⟨_, _, hS⟩
        refine ⟨hC, ?_⟩
        refine ED.at' #[true, true, true, true, true, true, true, false, true, true, true, true, true, true, true, true, false, false, false, false, false, false, false] (by kernel_rfl) ?_
        have hS := St.as (os' := Ass.deep 94 96 kS96 (some ⟨B2, 0, none⟩) 1 ([([] : List S96)] : List (List S96)) :: Ass.own 3 (Kd.int .i64) (some ⟨c5, 0, none⟩) 1 a9 :: Ass.box 91 a1 [.slice b2 b1.length b3, .slice a7 a6.length a8] :: Ass.deep 94 96 kS96 b2 b3 b1 :: Ass.own 3 (Kd.int .i64) a7 a8 a6 :: os) (St.fold (B := B) (os := _) (rs := _) (et := 94) (et' := 96) (K := kS96) (hs := [(none, ([] : List S96).length, 0)]) (xs := ([([] : List S96)] : List (List S96))) ⟨rfl, trivial⟩ (St.re hS [0, 1] [] rfl sub_self)) rfl
        refine ED.one 7 7 #[true, true, true, true, true, true, true, true, true, true, true, true, true, true, true, true, false, false, false, false, false, false, false] (by kernel_rfl) (by kernel_rfl) (by kernel_rfl) (EO.appendDeep hS 89 89 24 3 0 kS96 b2 b3 b1 rfl (some ⟨B2, 0, none⟩) 1 ([([] : List S96)] : List (List S96)) rfl a2 b9 (fun d8 i4 => Ass.deep 94 96 kS96 d8 i4 a2 :: Ass.own 3 (Kd.int .i64) (some ⟨c5, 0, none⟩) 1 a9 :: Ass.box 91 a1 [.slice b2 b1.length b3, .slice a7 a6.length a8] :: Ass.own 3 (Kd.int .i64) a7 a8 a6 :: os) 25 (by kernel_rfl) (by kernel_rfl) (by kernel_rfl) (by kernel_rfl) b8 (fun _ _ => rfl) ?_)
        intro d8 i4 w hS
        have hC : Core B [] [Ro.sl (Kd.int .i64) (some a4) a3 a0, Ro.sl (Kd.int .i64) A12 C13 l11] _ := ⟨_, _, hS⟩
        refine ⟨hC, ?_⟩
        refine ED.one 16 6 #[true, true, true, true, true, true, true, true, true, true, true, true, true, true, true, true, true, false, false, false, false, false, false] (by kernel_rfl) (by kernel_rfl) (by kernel_rfl) (EO.append hS 66 66 3 8 3 (Kd.int .i64) a7 a8 a6 rfl (some ⟨c5, 0, none⟩) 1 a9 (Rd.own 1 3 rfl) a5 b7 (fun o2 u2 => Ass.deep 94 96 kS96 d8 i4 a2 :: Ass.own 3 (Kd.int .i64) (some ⟨c5, 0, none⟩) 1 a9 :: Ass.box 91 a1 [.slice b2 b1.length b3, .slice a7 a6.length a8] :: Ass.own 3 (Kd.int .i64) o2 u2 a5 :: os) 34 (by kernel_rfl) (by kernel_rfl) (by kernel_rfl) (by kernel_rfl) b6 (fun _ _ => rfl) ?_)
        intro o2 u2 w hS
        have hC : Core B [] [Ro.sl (Kd.int .i64) (some a4) a3 a0, Ro.sl (Kd.int .i64) A12 C13 l11] _ := ⟨_, _, hS⟩
        refine ⟨hC, ?_⟩
        refine ED.quick hN hF hC [17, 18] [3, 12, 13, 14, 19, 25, 34, 36] 4 [(3, .pointer (some ⟨a1, 0, none⟩)), (12, .slice (some a4) a0.length a3), (13, .int .i64 (a0.length : Int)), (14, .int .i64 b0), (19, .pointer (some ⟨a1, 0, none⟩)), (25, .slice d8 a2.length i4), (34, .slice o2 a5.length u2), (36, .pointer (some ⟨a1, 0, none⟩))] #[true, true, true, true, true, true, true, true, true, true, true, true, true, true, true, true, true, true, true, false, false, false, false] (by kernel_rfl) (by kernel_rfl) ?_
        refine ED.one 19 3 #[true, true, true, true, true, true, true, true, true, true, true, true, true, true, true, true, true, true, true, true, false, false, false] (by kernel_rfl) (by kernel_rfl) (by kernel_rfl) (EO.storeBox (os' := Ass.deep 94 96 kS96 d8 i4 a2 :: Ass.own 3 (Kd.int .i64) (some ⟨c5, 0, none⟩) 1 a9 :: Ass.box 91 a1 [.slice d8 a2.length i4, .slice a7 a6.length a8] :: Ass.own 3 (Kd.int .i64) o2 u2 a5 :: os) hS 2 rfl 89 0 (.slice d8 a2.length i4) [.slice d8 a2.length i4, .slice a7 a6.length a8] (by kernel_rfl) (by kernel_rfl) (by kernel_rfl) (by kernel_rfl) (by kernel_rfl) (by kernel_rfl) rfl rfl ?_)
        intro w hS
        have hC : Core B [] [Ro.sl (Kd.int .i64) (some a4) a3 a0, Ro.sl (Kd.int .i64) A12 C13 l11] _ := ⟨_, _, hS⟩
        refine ⟨hC, ?_⟩
        refine ED.quick hN hF hC [20, 21] [3, 12, 13, 14, 34, 38] 1 [(3, .pointer (some ⟨a1, 0, none⟩)), (12, .slice (some a4) a0.length a3), (13, .int .i64 (a0.length : Int)), (14, .int .i64 b0), (34, .slice o2 a5.length u2), (38, .pointer (some ⟨a1, 1, none⟩))] #[true, true, true, true, true, true, true, true, true, true, true, true, true, true, true, true, true, true, true, true, true, true, false] (by kernel_rfl) (by kernel_rfl) ?_
        refine ED.one 22 0 #[true, true, true, true, true, true, true, true, true, true, true, true, true, true, true, true, true, true, true, true, true, true, true] (by kernel_rfl) (by kernel_rfl) (by kernel_rfl) (EO.storeBox (os' := Ass.deep 94 96 kS96 d8 i4 a2 :: Ass.own 3 (Kd.int .i64) (some ⟨c5, 0, none⟩) 1 a9 :: Ass.box 91 a1 [.slice d8 a2.length i4, .slice o2 a5.length u2] :: Ass.own 3 (Kd.int .i64) o2 u2 a5 :: os) hS 2 rfl 66 1 (.slice o2 a5.length u2) [.slice d8 a2.length i4, .slice o2 a5.length u2] (by kernel_rfl) (by kernel_rfl) (by kernel_rfl) (by kernel_rfl) (by kernel_rfl) (by kernel_rfl) rfl rfl ?_)
        intro w hS
        have hC : Core B [] [Ro.sl (Kd.int .i64) (some a4) a3 a0, Ro.sl (Kd.int .i64) A12 C13 l11] _ := ⟨_, _, hS⟩
        refine ⟨hC, ?_⟩
        refine ED.done (by kernel_rfl) ?_
        refine EQ.to ?_
        refine EQ.keep [3, 12, 13, 14] [(3, .pointer (some ⟨a1, 0, none⟩)), (12, .slice (some a4) a0.length a3), (13, .int .i64 (a0.length : Int)), (14, .int .i64 b0)] (by kernel_rfl) ?_
        exact fun a ha => ⟨(some ⟨c5, 0, none⟩), 1, d8, i4, o2, u2, ha, (hS.re [3, 3, 2, 3] [] rfl (sub_cons 0 rfl (sub_cons 1 rfl (sub_tail (sub_tail (sub_self))))))⟩
      ·refine EO.Y (YO.loadBox hS 1 rfl 66 1 1 (.slice a7 a6.length a8) 29 (by kernel_rfl) (by kernel_rfl) (by kernel_rfl) (by kernel_rfl)) ?_
       have hC : Core B [] [Ro.sl (Kd.int .i64) (some a4) a3 a0, Ro.sl (Kd.int .i64) A12 C13 l11] _ := ⟨_, _, hS⟩
       refine ⟨hC, ?_⟩
       refine ED.at' #[true, true, true, true, true, true, false, false, true, true, true, true, true, true, true, true, false, false, false, false, false, false, false] (by kernel_rfl) ?_
       refine ED.one 6 8 #[true, true, true, true, true, true, true, false, true, true, true, true, true, true, true, true, false, false, false, false, false, false, false] (by kernel_rfl) (by kernel_rfl) (by kernel_rfl) (EO.lit (xs := ([(none, ([] : List S96).length, 0)] : List Hdr)) hS Kd.hdr 94 89 1 #[(0, .slice none ([] : List S96).length 0)] [.slice none ([] : List S96).length 0] 24 (by kernel_rfl) (by kernel_rfl) (by kernel_rfl) (fun _ => (by kernel_rfl)) rfl (by kernel_rfl) (fun w G hr => ⟨[.slice none ([] : List S96).length 0], [], rfl, rfl, rfl⟩) ?_)
       intro C6 w hS
       have hS := St.nilO hS 96 kS96
       have hC : Core B [] [Ro.sl (Kd.int .i64) (some a4) a3 a0, Ro.sl (Kd.int .i64) A12 C13 l11] _ := ⟨_, _, hS⟩
       refine ⟨hC, ?_⟩
       have hS := St.as (os' := Ass.deep 94 96 kS96 (some ⟨C6, 0, none⟩) 1 ([([] : List S96)] : List (List S96)) :: Ass.own 3 (Kd.int .i64) (some ⟨c5, 0, none⟩) 1 a9 :: Ass.box 91 a1 [.slice b2 b1.length b3, .slice a7 a6.length a8] :: Ass.deep 94 96 kS96 b2 b3 b1 :: Ass.own 3 (Kd.int .i64) a7 a8 a6 :: os) (St.fold (B := B) (os := _) (rs := _) (et := 94) (et' := 96) (K := kS96) (hs := [(none, ([] : List S96).length, 0)]) (xs := ([([] : List S96)] : List (List S96))) ⟨rfl, trivial⟩ (St.re hS [0, 1] [] rfl sub_self)) rfl
       refine ED.one 7 7 #[true, true, true, true, true, true, true, true, true, true, true, true, true, true, true, true, false, false, false, false, false, false, false] (by kernel_rfl) (by kernel_rfl) (by kernel_rfl) (EO.appendDeep hS 89 89 24 3 0 kS96 b2 b3 b1 rfl (some ⟨C6, 0, none⟩) 1 ([([] : List S96)] : List (List S96)) rfl a2 b9 (fun d9 i5 => Ass.deep 94 96 kS96 d9 i5 a2 :: Ass.own 3 (Kd.int .i64) (some ⟨c5, 0, none⟩) 1 a9 :: Ass.box 91 a1 [.slice b2 b1.length b3, .slice a7 a6.length a8] :: Ass.own 3 (Kd.int .i64) a7 a8 a6 :: os) 25 (by kernel_rfl) (by kernel_rfl) (by kernel_rfl) (by kernel_rfl) b8 (fun _ _ => rfl) ?_)
       intro d9 i5 w hS
       have hC : Core B [] [Ro.sl (Kd.int .i64) (some a4) a3 a0, Ro.sl (Kd.int .i64) A12 C13 l11] _ := ⟨_, _, hS⟩
       refine ⟨hC, ?_⟩
       refine ED.one 16 6 #[true, true, true, true, true, true, true, true, true, true, true, true, true, true, true, true, true, false, false, false, false, false, false] (by kernel_rfl) (by kernel_rfl) (by kernel_rfl) (EO.append hS 66 66 3 8 3 (Kd.int .i64) a7 a8 a6 rfl (some ⟨c5, 0, none⟩) 1 a9 (Rd.own 1 3 rfl) a5 b7 (fun o3 u3 => Ass.deep 94 96 kS96 d9 i5 a2 :: Ass.own 3 (Kd.int .i64) (some ⟨c5, 0, none⟩) 1 a9 :: Ass.box 91 a1 [.slice b2 b1.length b3, .slice a7 a6.length a8] :: Ass.own 3 (Kd.int .i64) o3 u3 a5 :: os) 34 (by kernel_rfl) (by kernel_rfl) (by kernel_rfl) (by kernel_rfl) b6 (fun _ _ => rfl) ?_)
       intro o3 u3 w hS
       have hC : Core B [] [Ro.sl (Kd.int .i64) (some a4) a3 a0, Ro.sl (Kd.int .i64) A12 C13 l11] _ := ⟨_, _, hS⟩
       refine ⟨hC, ?_⟩
       refine ED.quick hN hF hC [17, 18] [3, 12, 13, 14, 19, 25, 34, 36] 4 [(3, .pointer (some ⟨a1, 0, none⟩)), (12, .slice (some a4) a0.length a3), (13, .int .i64 (a0.length : Int)), (14, .int .i64 b0), (19, .pointer (some ⟨a1, 0, none⟩)), (25, .slice d9 a2.length i5), (34, .slice o3 a5.length u3), (36, .pointer (some ⟨a1, 0, none⟩))] #[true, true, true, true, true, true, true, true, true, true, true, true, true, true, true, true, true, true, true, false, false, false, false] (by kernel_rfl) (by kernel_rfl) ?_
       refine ED.one 19 3 #[true, true, true, true, true, true, true, true, true, true, true, true, true, true, true, true, true, true, true, true, false, false, false] (by kernel_rfl) (by kernel_rfl) (by kernel_rfl) (EO.storeBox (os' := Ass.deep 94 96 kS96 d9 i5 a2 :: Ass.own 3 (Kd.int .i64) (some ⟨c5, 0, none⟩) 1 a9 :: Ass.box 91 a1 [.slice d9 a2.length i5, .slice a7 a6.length a8] :: Ass.own 3 (Kd.int .i64) o3 u3 a5 :: os) hS 2 rfl 89 0 (.slice d9 a2.length i5) [.slice d9 a2.length i5, .slice a7 a6.length a8] (by kernel_rfl) (by kernel_rfl) (by kernel_rfl) (by kernel_rfl) (by kernel_rfl) (by kernel_rfl) rfl rfl ?_)
       intro w hS
       have hC : Core B [] [Ro.sl (Kd.int .i64) (some a4) a3 a0, Ro.sl (Kd.int .i64) A12 C13 l11] _ := ⟨_, _, hS⟩
       refine ⟨hC, ?_⟩
       refine ED.quick hN hF hC [20, 21] [3, 12, 13, 14, 34, 38] 1 [(3, .pointer (some ⟨a1, 0, none⟩)), (12, .slice (some a4) a0.length a3), (13, .int .i64 (a0.length : Int)), (14, .int .i64 b0), (34, .slice o3 a5.length u3), (38, .pointer (some ⟨a1, 1, none⟩))] #[true, true, true, true, true, true, true, true, true, true, true, true, true, true, true, true, true, true, true, true, true, true, false] (by kernel_rfl) (by kernel_rfl) ?_
       refine ED.one 22 0 #[true, true, true, true, true, true, true, true, true, true, true, true, true, true, true, true, true, true, true, true, true, true, true] (by kernel_rfl) (by kernel_rfl) (by kernel_rfl) (EO.storeBox (os' := Ass.deep 94 96 kS96 d9 i5 a2 :: Ass.own 3 (Kd.int .i64) (some ⟨c5, 0, none⟩) 1 a9 :: Ass.box 91 a1 [.slice d9 a2.length i5, .slice o3 a5.length u3] :: Ass.own 3 (Kd.int .i64) o3 u3 a5 :: os) hS 2 rfl 66 1 (.slice o3 a5.length u3) [.slice d9 a2.length i5, .slice o3 a5.length u3] (by kernel_rfl) (by kernel_rfl) (by kernel_rfl) (by kernel_rfl) (by kernel_rfl) (by kernel_rfl) rfl rfl ?_)
       intro w hS
       have hC : Core B [] [Ro.sl (Kd.int .i64) (some a4) a3 a0, Ro.sl (Kd.int .i64) A12 C13 l11] _ := ⟨_, _, hS⟩
       refine ⟨hC, ?_⟩
       refine ED.done (by kernel_rfl) ?_
       refine EQ.to ?_
       refine EQ.keep [3, 12, 13, 14] [(3, .pointer (some ⟨a1, 0, none⟩)), (12, .slice (some a4) a0.length a3), (13, .int .i64 (a0.length : Int)), (14, .int .i64 b0)] (by kernel_rfl) ?_
       exact fun a ha => ⟨(some ⟨c5, 0, none⟩), 1, d9, i5, o3, u3, ha, (hS.re [3, 3, 2, 3] [] rfl (sub_cons 0 rfl (sub_cons 1 rfl (sub_tail (sub_tail (sub_self))))))⟩
    ·refine EO.lit (xs := ([(none, ([] : List S96).length, 0)] : List Hdr)) hS Kd.hdr 94 89 1 #[(0, .slice none ([] : List S96).length 0)] [.slice none ([] : List S96).length 0] 24 (by kernel_rfl) (by kernel_rfl) (by kernel_rfl) (fun _ => (by kernel_rfl)) rfl (by kernel_rfl) (fun w G hr => ⟨[.slice none ([] : List S96).length 0], [], rfl, rfl, rfl⟩) ?_
     intro c4 w hS
     have hS := St.nilO hS 96 kS96
     have hC : Core B [] [Ro.sl (Kd.int .i64) (some a4) a3 a0, Ro.sl (Kd.int .i64) A12 C13 l11] _ := ⟨_, _, hS⟩
     refine ⟨hC, ?_⟩
     refine ED.at' #[true, true, true, true, true, false, true, false, true, true, true, false, true, true, true, false, false, false, false, false, false, false, false] (by kernel_rfl) ?_
     refine ED.many 5 [11, 15] 10 (by kernel_rfl) (by kernel_rfl) (Each.cons ?_ (Each.cons ?_ (Each.cons ?_ Each.nil)))
     ·refine EO.Y (YO.loadBox hS 2 rfl 89 0 1 (.slice b2 b1.length b3) 23 (by kernel_rfl) (by kernel_rfl) (by kernel_rfl) (by kernel_rfl)) ?_
      have hC : Core B [] [Ro.sl (Kd.int .i64) (some a4) a3 a0, Ro.sl (Kd.int .i64) A12 C13 l11] _ := ⟨_, _, hS⟩
      refine ⟨hC, ?_⟩
      refine ED.at' #[true, true, true, true, true, true, true, false, true, true, true, false, true, true, true, false, false, false, false, false, false, false, false] (by kernel_rfl) ?_
      refine ED.many 7 [11, 15] 9 (by kernel_rfl) (by kernel_rfl) (Each.cons ?_ (Each.cons ?_ (Each.cons ?_ Each.nil)))
      ·have hS := St.as (os' := Ass.deep 94 96 kS96 (some ⟨c4, 0, none⟩) 1 ([([] : List S96)] : List (List S96)) :: Ass.box 91 a1 [.slice b2 b1.length b3, .slice a7 a6.length a8] :: Ass.deep 94 96 kS96 b2 b3 b1 :: Ass.own 3 (Kd.int .i64) a7 a8 a6 :: os) (St.fold (B := B) (os := _) (rs := _) (et := 94) (et' := 96) (K := kS96) (hs := [(none, ([] : List S96).length, 0)]) (xs := ([([] : List S96)] : List (List S96))) ⟨rfl, trivial⟩ (St.re hS [0, 1] [] rfl sub_self)) rfl
       refine EO.appendDeep hS 89 89 24 2 0 kS96 b2 b3 b1 rfl (some ⟨c4, 0, none⟩) 1 ([([] : List S96)] : List (List S96)) rfl a2 b9 (fun c1 c3 => Ass.deep 94 96 kS96 c1 c3 a2 :: Ass.box 91 a1 [.slice b2 b1.length b3, .slice a7 a6.length a8] :: Ass.own 3 (Kd.int .i64) a7 a8 a6 :: os) 25 (by kernel_rfl) (by kernel_rfl) (by kernel_rfl) (by kernel_rfl) b8 (fun _ _ => rfl) ?_
       intro c1 c3 w hS
       have hC : Core B [] [Ro.sl (Kd.int .i64) (some a4) a3 a0, Ro.sl (Kd.int .i64) A12 C13 l11] _ := ⟨_, _, hS⟩
       refine ⟨hC, ?_⟩
       refine ED.at' #[true, true, true, true, true, true, true, true, true, true, true, false, true, true, true, false, false, false, false, false, false, false, false] (by kernel_rfl) ?_
       refine ED.two 11 15 8 (by kernel_rfl) (by kernel_rfl) ?_ ?_
       ·refine EO.Y (YO.loadBox hS 1 rfl 66 1 1 (.slice a7 a6.length a8) 29 (by kernel_rfl) (by kernel_rfl) (by kernel_rfl) (by kernel_rfl)) ?_
        have hC : Core B [] [Ro.sl (Kd.int .i64) (some a4) a3 a0, Ro.sl (Kd.int .i64) A12 C13 l11] _ := ⟨_, _, hS⟩
        refine ⟨hC, ?_⟩
        refine ED.at' #[true, true, true, true, true, true, true, true, true, true, true, true, true, true, true, false, false, false, false, false, false, false, false] (by kernel_rfl) ?_
        refine ED.one 15 7 #[true, true, true, true, true, true, true, true, true, true, true, true, true, true, true, true, false, false, false, false, false, false, false] (by kernel_rfl) (by kernel_rfl) (by kernel_rfl) (EO.lit hS (Kd.int .i64) 3 66 1 #[(0, .int .i64 (mn (mx (a0.getD b0.toNat 0) 0) 4096))] [.int .i64 (mn (mx (a0.getD b0.toNat 0) 0) 4096)] a9 33 (by kernel_rfl) (by kernel_rfl) (by kernel_rfl) (fun _ => (by kernel_rfl)) (by rw [b5]; rfl) (by kernel_rfl) (fun w G hr => (by rw [b5]; exact ⟨[.int .i64 (mn (mx (a0.getD b0.toNat 0) 0) 4096)], [], rfl, rfl, rfl⟩)) ?_)
        intro A1 w hS
        have hC : Core B [] [Ro.sl (Kd.int .i64) (some a4) a3 a0, Ro.sl (Kd.int .i64) A12 C13 l11] _ := ⟨_, _, hS⟩
        refine ⟨hC, ?_⟩
        refine ED.one 16 6 #[true, true, true, true, true, true, true, true, true, true, true, true, true, true, true, true, true, false, false, false, false, false, false] (by kernel_rfl) (by kernel_rfl) (by kernel_rfl) (EO.append hS 66 66 3 8 3 (Kd.int .i64) a7 a8 a6 rfl (some ⟨A1, 0, none⟩) 1 a9 (Rd.own 0 3 rfl) a5 b7 (fun o4 u4 => Ass.own 3 (Kd.int .i64) (some ⟨A1, 0, none⟩) 1 a9 :: Ass.deep 94 96 kS96 c1 c3 a2 :: Ass.box 91 a1 [.slice b2 b1.length b3, .slice a7 a6.length a8] :: Ass.own 3 (Kd.int .i64) o4 u4 a5 :: os) 34 (by kernel_rfl) (by kernel_rfl) (by kernel_rfl) (by kernel_rfl) b6 (fun _ _ => rfl) ?_)
        intro o4 u4 w hS
        have hC : Core B [] [Ro.sl (Kd.int .i64) (some a4) a3 a0, Ro.sl (Kd.int .i64) A12 C13 l11] _ := ⟨_, _, hS⟩
        refine ⟨hC, ?_⟩
        refine ED.quick hN hF hC [17, 18] [3, 12, 13, 14, 19, 25, 34, 36] 4 [(3, .pointer (some ⟨a1, 0, none⟩)), (12, .slice (some a4) a0.length a3), (13, .int .i64 (a0.length : Int)), (14, .int .i64 b0), (19, .pointer (some ⟨a1, 0, none⟩)), (25, .slice c1 a2.length c3), (34, .slice o4 a5.length u4), (36, .pointer (some ⟨a1, 0, none⟩))] #[true, true, true, true, true, true, true, true, true, true, true, true, true, true, true, true, true, true, true, false, false, false, false] (by kernel_rfl) (by kernel_rfl) ?_
        refine ED.one 19 3 #[true, true, true, true, true, true, true, true, true, true, true, true, true, true, true, true, true, true, true, true, false, false, false] (by kernel_rfl) (by kernel_rfl) (by kernel_rfl) (EO.storeBox (os' := Ass.own 3 (Kd.int .i64) (some ⟨A1, 0, none⟩) 1 a9 :: Ass.deep 94 96 kS96 c1 c3 a2 :: Ass.box 91 a1 [.slice c1 a2.length c3, .slice a7 a6.length a8] :: Ass.own 3 (Kd.int .i64) o4 u4 a5 :: os) hS 2 rfl 89 0 (.slice c1 a2.length c3) [.slice c1 a2.length c3, .slice a7 a6.length a8] (by kernel_rfl) (by kernel_rfl) (by kernel_rfl) (by kernel_rfl) (by kernel_rfl) (by kernel_rfl) rfl rfl ?_)
        intro w hS
        have hC : Core B [] [Ro.sl (Kd.int .i64) (some a4) a3 a0, Ro.sl (Kd.int .i64) A12 C13 l11] _ := ⟨_, _, hS⟩
        refine ⟨hC, ?_⟩
        refine ED.quick hN hF hC [20, 21] [3, 12, 13, 14, 34, 38] 1 [(3, .pointer (some ⟨a1, 0, none⟩)), (12, .slice (some a4) a0.length a3), (13, .int .i64 (a0.length : Int)), (14, .int .i64 b0), (34, .slice o4 a5.length u4), (38, .pointer (some ⟨a1, 1, none⟩))] #[true, true, true, true, true, true, true, true, true, true, true, true, true, true, true, true, true, true, true, true, true, true, false] (by kernel_rfl) (by kernel_rfl) ?_
        refine ED.one 22 0 #[true, true, true, true, true, true, true, true, true, true, true, true, true, true, true, true, true, true, true, true, true, true, true] (by kernel_rfl) (by kernel_rfl) (by kernel_rfl) (EO.storeBox (os' := Ass.own 3 (Kd.int .i64) (some ⟨A1, 0, none⟩) 1 a9 :: Ass.deep 94 96 kS96 c1 c3 a2 :: Ass.box 91 a1 [.slice c1 a2.length c3, .slice o4 a5.length u4] :: Ass.own 3 (Kd.int .i64) o4 u4 a5 :: os) hS 2 rfl 66 1 (.slice o4 a5.length u4) [.slice c1 a2.length c3, .slice o4 a5.length u4] (by kernel_rfl) (by kernel_rfl) (by kernel_rfl) (by kernel_rfl) (by kernel_rfl) (by kernel_rfl) rfl rfl ?_)
        intro w hS
        have hC : Core B [] [Ro.sl (Kd.int .i64) (some a4) a3 a0, Ro.sl (Kd.int .i64) A12 C13 l11] _ := ⟨_, _, hS⟩
        refine ⟨hC, ?_⟩
        refine ED.done (by kernel_rfl) ?_
        refine EQ.to ?_
        refine EQ.keep [3, 12, 13, 14] [(3, .pointer (some ⟨a1, 0, none⟩)), (12, .slice (some a4) a0.length a3), (13, .int .i64 (a0.length : Int)), (14, .int .i64 b0)] (by kernel_rfl) ?_
        exact fun a ha => ⟨(some ⟨A1, 0, none⟩), 1, c1, c3, o4, u4, ha, (hS.re [3, 3, 3, 3] [] rfl (sub_cons 0 rfl (sub_cons 1 rfl (sub_tail (sub_tail (sub_self))))))⟩
       ·refine EO.lit hS (Kd.int .i64) 3 66 1 #[(0, .int .i64 (mn (mx (a0.getD b0.toNat 0) 0) 4096))] [.int .i64 (mn (mx (a0.getD b0.toNat 0) 0) 4096)] a9 33 (by kernel_rfl) (by kernel_rfl) (by kernel_rfl) (fun _ => (by kernel_rfl)) (by rw [b5]; rfl) (by kernel_rfl) (fun w G hr => (by rw [b5]; exact ⟨[.int .i64 (mn (mx (a0.getD b0.toNat 0) 0) 4096)], [], rfl, rfl, rfl⟩)) ?_
        intro A2 w hS
        have hC : Core B [] [Ro.sl (Kd.int .i64) (some a4) a3 a0, Ro.sl (Kd.int .i64) A12 C13 l11] _ := ⟨_, _, hS⟩
        refine ⟨hC, ?_⟩
        refine ED.at' #[true, true, true, true, true, true, true, true, true, true, true, false, true, true, true, true, false, false, false, false, false, false, false] (by kernel_rfl) ?_
        refine ED.one 11 7 #[true, true, true, true, true, true, true, true, true, true, true, true, true, true, true, true, false, false, false, false, false, false, false] (by kernel_rfl) (by kernel_rfl) (by kernel_rfl) (EO.Y (YO.loadBox hS 2 rfl 66 1 1 (.slice a7 a6.length a8) 29 (by kernel_rfl) (by kernel_rfl) (by kernel_rfl) (by kernel_rfl)) ?_)
        have hC : Core B [] [Ro.sl (Kd.int .i64) (some a4) a3 a0, Ro.sl (Kd.int .i64) A12 C13 l11] _ := ⟨_, _, hS⟩
        refine ⟨hC, ?_⟩
        refine ED.one 16 6 #[true, true, true, true, true, true, true, true, true, true, true, true, true, true, true, true, true, false, false, false, false, false, false] (by kernel_rfl) (by kernel_rfl) (by kernel_rfl) (EO.append hS 66 66 3 8 3 (Kd.int .i64) a7 a8 a6 rfl (some ⟨A2, 0, none⟩) 1 a9 (Rd.own 0 3 rfl) a5 b7 (fun o5 u5 => Ass.own 3 (Kd.int .i64) (some ⟨A2, 0, none⟩) 1 a9 :: Ass.deep 94 96 kS96 c1 c3 a2 :: Ass.box 91 a1 [.slice b2 b1.length b3, .slice a7 a6.length a8] :: Ass.own 3 (Kd.int .i64) o5 u5 a5 :: os) 34 (by kernel_rfl) (by kernel_rfl) (by kernel_rfl) (by kernel_rfl) b6 (fun _ _ => rfl) ?_)
        intro o5 u5 w hS
        have hC : Core B [] [Ro.sl (Kd.int .i64) (some a4) a3 a0, Ro.sl (Kd.int .i64) A12 C13 l11] _ := ⟨_, _, hS⟩
        refine ⟨hC, ?_⟩
        refine ED.quick hN hF hC [17, 18] [3, 12, 13, 14, 19, 25, 34, 36] 4 [(3, .pointer (some ⟨a1, 0, none⟩)), (12, .slice (some a4) a0.length a3), (13, .int .i64 (a0.length : Int)), (14, .int .i64 b0), (19, .pointer (some ⟨a1, 0, none⟩)), (25, .slice c1 a2.length c3), (34, .slice o5 a5.length u5), (36, .pointer (some ⟨a1, 0, none⟩))] #[true, true, true, true, true, true, true, true, true, true, true, true, true, true, true, true, true, true, true, false, false, false, false] (by kernel_rfl) (by kernel_rfl) ?_
        refine ED.one 19 3 #[true, true, true, true, true, true, true, true, true, true, true, true, true, true, true, true, true, true, true, true, false, false, false] (by kernel_rfl) (by kernel_rfl) (by kernel_rfl) (EO.storeBox (os' := Ass.own 3 (Kd.int .i64) (some ⟨A2, 0, none⟩) 1 a9 :: Ass.deep 94 96 kS96 c1 c3 a2 :: Ass.box 91 a1 [.slice c1 a2.length c3, .slice a7 a6.length a8] :: Ass.own 3 (Kd.int .i64) o5 u5 a5 :: os) hS 2 rfl 89 0 (.slice c1 a2.length c3) [.slice c1 a2.length c3, .slice a7 a6.length a8] (by kernel_rfl) (by kernel_rfl) (by kernel_rfl) (by kernel_rfl) (by kernel_rfl) (by kernel_rfl) rfl rfl ?_)
        intro w hS
        have hC : Core B [] [Ro.sl (Kd.int .i64) (some a4) a3 a0, Ro.sl (Kd.int .i64) A12 C13 l11] _ := ⟨_, _, hS⟩
        refine ⟨hC, ?_⟩
        refine ED.quick hN hF hC [20, 21] [3, 12, 13, 14, 34, 38] 1 [(3, .pointer (some ⟨a1, 0, none⟩)), (12, .slice (some a4) a0.length a3), (13, .int .i64 (a0.length : Int)), (14, .int .i64 b0), (34, .slice o5 a5.length u5), (38, .pointer (some ⟨a1, 1, none⟩))] #[true, true, true, true, true, true, true, true, true, true, true, true, true, true, true, true, true, true, true, true, true, true, false] (by kernel_rfl) (by kernel_rfl) ?_
        refine ED.one 22 0 #[true, true, true, true, true, true, true, true, true, true, true, true, true, true, true, true, true, true, true, true, true, true, true] (by kernel_rfl) (by kernel_rfl) (by kernel_rfl) (EO.storeBox (os' := Ass.own 3 (Kd.int .i64) (some ⟨A2, 0, none⟩) 1 a9 :: Ass.deep 94 96 kS96 c1 c3 a2 :: Ass.box 91 a1 [.slice c1 a2.length c3, .slice o5 a5.length u5] :: Ass.own 3 (Kd.int .i64) o5 u5 a5 :: os) hS 2 rfl 66 1 (.slice o5 a5.length u5) [.slice c1 a2.length c3, .slice o5 a5.length u5] (by kernel_rfl) (by kernel_rfl) (by kernel_rfl) (by kernel_rfl) (by kernel_rfl) (by kernel_rfl) rfl rfl ?_)
        intro w hS
        have hC : Core B [] [Ro.sl (Kd.int .i64) (some a4) a3 a0, Ro.sl (Kd.int .i64) A12 C13 l11] _ := ⟨_, _, hS⟩
        refine ⟨hC, ?_⟩
        refine ED.done (by kernel_rfl) ?_
        refine EQ.to ?_
        refine EQ.keep [3, 12, 13, 14] [(3, .pointer (some ⟨a1, 0, none⟩)), (12, .slice (some a4) a0.length a3), (13, .int .i64 (a0.length : Int)), (14, .int .i64 b0)] (by kernel_rfl) ?_
        exact fun a ha => ⟨(some ⟨A2, 0, none⟩), 1, c1, c3, o5, u5, ha, (hS.re [3, 3, 3, 3] [] rfl (sub_cons 0 rfl (sub_cons 1 rfl (sub_tail (sub_tail (sub_self))))))⟩
      ·refine EO.Y (YO.loadBox hS 2 rfl 66 1 1 (.slice a7 a6.length a8) 29 (by kernel_rfl) (by kernel_rfl) (by kernel_rfl) (by kernel_rfl)) ?_
       have hC : Core B [] [Ro.sl (Kd.int .i64) (some a4) a3 a0, Ro.sl (Kd.int .i64) A12 C13 l11] _ := ⟨_, _, hS⟩
       refine ⟨hC, ?_⟩
       refine ED.at' #[true, true, true, true, true, true, true, false, true, true, true, true, true, true, true, false, false, false, false, false, false, false, false] (by kernel_rfl) ?_
       refine ED.two 7 15 8 (by kernel_rfl) (by kernel_rfl) ?_ ?_
       ·have hS := St.as (os' := Ass.deep 94 96 kS96 (some ⟨c4, 0, none⟩) 1 ([([] : List S96)] : List (List S96)) :: Ass.box 91 a1 [.slice b2 b1.length b3, .slice a7 a6.length a8] :: Ass.deep 94 96 kS96 b2 b3 b1 :: Ass.own 3 (Kd.int .i64) a7 a8 a6 :: os) (St.fold (B := B) (os := _) (rs := _) (et := 94) (et' := 96) (K := kS96) (hs := [(none, ([] : List S96).length, 0)]) (xs := ([([] : List S96)] : List (List S96))) ⟨rfl, trivial⟩ (St.re hS [0, 1] [] rfl sub_self)) rfl
        refine EO.appendDeep hS 89 89 24 2 0 kS96 b2 b3 b1 rfl (some ⟨c4, 0, none⟩) 1 ([([] : List S96)] : List (List S96)) rfl a2 b9 (fun e0 i6 => Ass.deep 94 96 kS96 e0 i6 a2 :: Ass.box 91 a1 [.slice b2 b1.length b3, .slice a7 a6.length a8] :: Ass.own 3 (Kd.int .i64) a7 a8 a6 :: os) 25 (by kernel_rfl) (by kernel_rfl) (by kernel_rfl) (by kernel_rfl) b8 (fun _ _ => rfl) ?_
        intro e0 i6 w hS
        have hC : Core B [] [Ro.sl (Kd.int .i64) (some a4) a3 a0, Ro.sl (Kd.int .i64) A12 C13 l11] _ := ⟨_, _, hS⟩
        refine ⟨hC, ?_⟩
        refine ED.at' #[true, true, true, true, true, true, true, true, true, true, true, true, true, true, true, false, false, false, false, false, false, false, false] (by kernel_rfl) ?_
        refine ED.one 15 7 #[true, true, true, true, true, true, true, true, true, true, true, true, true, true, true, true, false, false, false, false, false, false, false] (by kernel_rfl) (by kernel_rfl) (by kernel_rfl) (EO.lit hS (Kd.int .i64) 3 66 1 #[(0, .int .i64 (mn (mx (a0.getD b0.toNat 0) 0) 4096))] [.int .i64 (mn (mx (a0.getD b0.toNat 0) 0) 4096)] a9 33 (by kernel_rfl) (by kernel_rfl) (by kernel_rfl) (fun _ => (by kernel_rfl)) (by rw [b5]; rfl) (by kernel_rfl) (fun w G hr => (by rw [b5]; exact ⟨[.int .i64 (mn (mx (a0.getD b0.toNat 0) 0) 4096)], [], rfl, rfl, rfl⟩)) ?_)
        intro A3 w hS
        have hC : Core B [] [Ro.sl (Kd.int .i64) (some a4) a3 a0, Ro.sl (Kd.int .i64) A12 C13 l11] _ := ⟨_, _, hS⟩
        refine ⟨hC, ?_⟩
        refine ED.one 16 6 #[true, true, true, true, true, true, true, true, true, true, true, true, true, true, true, true, true, false, false, false, false, false, false] (by kernel_rfl) (by kernel_rfl) (by kernel_rfl) (EO.append hS 66 66 3 8 3 (Kd.int .i64) a7 a8 a6 rfl (some ⟨A3, 0, none⟩) 1 a9 (Rd.own 0 3 rfl) a5 b7 (fun o6 u6 => Ass.own 3 (Kd.int .i64) (some ⟨A3, 0, none⟩) 1 a9 :: Ass.deep 94 96 kS96 e0 i6 a2 :: Ass.box 91 a1 [.slice b2 b1.length b3, .slice a7 a6.length a8] :: Ass.own 3 (Kd.int .i64) o6 u6 a5 :: os) 34 (by kernel_rfl) (by kernel_rfl) (by kernel_rfl) (by kernel_rfl) b6 (fun _ _ => rfl) ?_)
        intro o6 u6 w hS
        have hC : Core B [] [Ro.sl (Kd.int .i64) (some a4) a3 a0, Ro.sl (Kd.int .i64) A12 C13 l11] _ := ⟨_, _, hS⟩
        refine ⟨hC, ?_⟩
        refine ED.quick hN hF hC [17, 18] [3, 12, 13, 14, 19, 25, 34, 36] 4 [(3, .pointer (some ⟨a1, 0, none⟩)), (12, .slice (some a4) a0.length a3), (13, .int .i64 (a0.length : Int)), (14, .int .i64 b0), (19, .pointer (some ⟨a1, 0, none⟩)), (25, .slice e0 a2.length i6), (34, .slice o6 a5.length u6), (36, .pointer (some ⟨a1, 0, none⟩))] #[true, true, true, true, true, true, true, true, true, true, true, true, true, true, true, true, true, true, true, false, false, false, false] (by kernel_rfl) (by kernel_rfl) ?_
        refine ED.one 19 3 #[true, true, true, true, true, true, true, true, true, true, true, true, true, true, true, true, true, true, true, true, false, false, false] (by kernel_rfl) (by kernel_rfl) (by kernel_rfl) (EO.storeBox (os' := Ass.own 3 (Kd.int .i64) (some ⟨A3, 0, none⟩) 1 a9 :: Ass.deep 94 96 kS96 e0 i6 a2 :: Ass.box 91 a1 [.slice e0 a2.length i6, .slice a7 a6.length a8] :: Ass.own 3 (Kd.int .i64) o6 u6 a5 :: os) hS 2 rfl 89 0 (.slice e0 a2.length i6) [.slice e0 a2.length i6, .slice a7 a6.length a8] (by kernel_rfl) (by kernel_rfl) (by kernel_rfl) (by kernel_rfl) (by kernel_rfl) (by kernel_rfl) rfl rfl ?_)
        intro w hS
        have hC : Core B [] [Ro.sl (Kd.int .i64) (some a4) a3 a0, Ro.sl (Kd.int .i64) A12 C13 l11] _ := ⟨_, _, hS⟩
        refine ⟨hC, ?_⟩
        refine ED.quick hN hF hC [20, 21] [3, 12, 13, 14, 34, 38] 1 [(3, .pointer (some ⟨a1, 0, none⟩)), (12, .slice (some a4) a0.length a3), (13, .int .i64 (a0.length : Int)), (14, .int .i64 b0), (34, .slice o6 a5.length u6), (38, .pointer (some ⟨a1, 1, none⟩))] #[true, true, true, true, true, true, true, true, true, true, true, true, true, true, true, true, true, true, true, true, true, true, false] (by kernel_rfl) (by kernel_rfl) ?_
        refine ED.one 22 0 #[true, true, true, true, true, true, true, true, true, true, true, true, true, true, true, true, true, true, true, true, true, true, true] (by kernel_rfl) (by kernel_rfl) (by kernel_rfl) (EO.storeBox (os' := Ass.own 3 (Kd.int .i64) (some ⟨A3, 0, none⟩) 1 a9 :: Ass.deep 94 96 kS96 e0 i6 a2 :: Ass.box 91 a1 [.slice e0 a2.length i6, .slice o6 a5.length u6] :: Ass.own 3 (Kd.int .i64) o6 u6 a5 :: os) hS 2 rfl 66 1 (.slice o6 a5.length u6) [.slice e0 a2.length i6, .slice o6 a5.length u6] (by kernel_rfl) (by kernel_rfl) (by kernel_rfl) (by kernel_rfl) (by kernel_rfl) (by kernel_rfl) rfl rfl ?_)
        intro w hS
        have hC : Core B [] [Ro.sl (Kd.int .i64) (some a4) a3 a0, Ro.sl (Kd.int .i64) A12 C13 l11] _ := ⟨_, _, hS⟩
        refine ⟨hC, ?_⟩
        refine ED.done (by kernel_rfl) ?_
        refine EQ.to ?_
        refine EQ.keep [3, 12, 13, 14] [(3, .pointer (some ⟨a1, 0, none⟩)), (12, .slice (some a4) a0.length a3), (13, .int .i64 (a0.length : Int)), (14, .int .i64 b0)] (by kernel_rfl) ?_
        exact fun a ha => ⟨(some ⟨A3, 0, none⟩), 1, e0, i6, o6, u6, ha, (hS.re [3, 3, 3, 3] [] rfl (sub_cons 0 rfl (sub_cons 1 rfl (sub_tail (sub_tail (sub_self))))))⟩
       ·refine EO.lit hS (Kd.int .i64) 3 66 1 #[(0, .int .i64 (mn (mx (a0.getD b0.toNat 0) 0) 4096))] [.int .i64 (mn (mx (a0.getD b0.toNat 0) 0) 4096)] a9 33 (by kernel_rfl) (by kernel_rfl) (by kernel_rfl) (fun _ => (by kernel_rfl)) (by rw [b5]; rfl) (by kernel_rfl) (fun w G hr => (by rw [b5]; exact ⟨[.int .i64 (mn (mx (a0.getD b0.toNat 0) 0) 4096)], [], rfl, rfl, rfl⟩)) ?_
        intro y6 w hS
        have hC : Core B [] [Ro.sl (Kd.int .i64) (some a4) a3 a0, Ro.sl (Kd.int .i64) A12 C13 l11] _ := ⟨_, _, hS⟩
        refine ⟨hC, ?_⟩
        refine ED.at' #[true, true, true, true, true, true, true, false, true, true, true, true, true, true, true, true, false, false, false, false, false, false, false] (by kernel_rfl) ?_
        have hS := St.as (os' := Ass.deep 94 96 kS96 (some ⟨c4, 0, none⟩) 1 ([([] : List S96)] : List (List S96)) :: Ass.own 3 (Kd.int .i64) (some ⟨y6, 0, none⟩) 1 a9 :: Ass.box 91 a1 [.slice b2 b1.length b3, .slice a7 a6.length a8] :: Ass.deep 94 96 kS96 b2 b3 b1 :: Ass.own 3 (Kd.int .i64) a7 a8 a6 :: os) (St.fold (B := B) (os := _) (rs := _) (et := 94) (et' := 96) (K := kS96) (hs := [(none, ([] : List S96).length, 0)]) (xs := ([([] : List S96)] : List (List S96))) ⟨rfl, trivial⟩ (St.re hS [1, 2] [] rfl sub_self)) rfl
        refine ED.one 7 7 #[true, true, true, true, true, true, true, true, true, true, true, true, true, true, true, true, false, false, false, false, false, false, false] (by kernel_rfl) (by kernel_rfl) (by kernel_rfl) (EO.appendDeep hS 89 89 24 3 0 kS96 b2 b3 b1 rfl (some ⟨c4, 0, none⟩) 1 ([([] : List S96)] : List (List S96)) rfl a2 b9 (fun e1 i7 => Ass.deep 94 96 kS96 e1 i7 a2 :: Ass.own 3 (Kd.int .i64) (some ⟨y6, 0, none⟩) 1 a9 :: Ass.box 91 a1 [.slice b2 b1.length b3, .slice a7 a6.length a8] :: Ass.own 3 (Kd.int .i64) a7 a8 a6 :: os) 25 (by kernel_rfl) (by kernel_rfl) (by kernel_rfl) (by kernel_rfl) b8 (fun _ _ => rfl) ?_)
        intro e1 i7 w hS
        have hC : Core B [] [Ro.sl (Kd.int .i64) (some a4) a3 a0, Ro.sl (Kd.int .i64) A12 C13 l11] _ := ⟨_, _, hS⟩
        refine ⟨hC, ?_⟩
        refine ED.one 16 6 #[true, true, true, true, true, true, true, true, true, true, true, true, true, true, true, true, true, false, false, false, false, false, false] (by kernel_rfl) (by kernel_rfl) (by kernel_rfl) (EO.append hS 66 66 3 8 3 (Kd.int .i64) a7 a8 a6 rfl (some ⟨y6, 0, none⟩) 1 a9 (Rd.own 1 3 rfl) a5 b7 (fun o7 u7 => Ass.deep 94 96 kS96 e1 i7 a2 :: Ass.own 3 (Kd.int .i64) (some ⟨y6, 0, none⟩) 1 a9 :: Ass.box 91 a1 [.slice b2 b1.length b3, .slice a7 a6.length a8] :: Ass.own 3 (Kd.int .i64) o7 u7 a5 :: os) 34 (by kernel_rfl) (by kernel_rfl) (by kernel_rfl) (by kernel_rfl) b6 (fun _ _ => rfl) ?_)
        intro o7 u7 w hS
        have hC : Core B [] [Ro.sl (Kd.int .i64) (some a4) a3 a0, Ro.sl (Kd.int .i64) A12 C13 l11] _ := ⟨_, _, hS⟩
        refine ⟨hC, ?_⟩
        refine ED.quick hN hF hC [17, 18] [3, 12, 13, 14, 19, 25, 34, 36] 4 [(3, .pointer (some ⟨a1, 0, none⟩)), (12, .slice (some a4) a0.length a3), (13, .int .i64 (a0.length : Int)), (14, .int .i64 b0), (19, .pointer (some ⟨a1, 0, none⟩)), (25, .slice e1 a2.length i7), (34, .slice o7 a5.length u7), (36, .pointer (some ⟨a1, 0, none⟩))] #[true, true, true, true, true, true, true, true, true, true, true, true, true, true, true, true, true, true, true, false, false, false, false] (by kernel_rfl) (by kernel_rfl) ?_
        refine ED.one 19 3 #[true, true, true, true, true, true, true, true, true, true, true, true, true, true, true, true, true, true, true, true, false, false, false] (by kernel_rfl) (by kernel_rfl) (by kernel_rfl) (EO.storeBox (os' := Ass.deep 94 96 kS96 e1 i7 a2 :: Ass.own 3 (Kd.int .i64) (some ⟨y6, 0, none⟩) 1 a9 :: Ass.box 91 a1 [.slice e1 a2.length i7, .slice a7 a6.length a8] :: Ass.own 3 (Kd.int .i64) o7 u7 a5 :: os) hS 2 rfl 89 0 (.slice e1 a2.length i7) [.slice e1 a2.length i7, .slice a7 a6.length a8] (by kernel_rfl) (by kernel_rfl) (by kernel_rfl) (by kernel_rfl) (by kernel_rfl) (by kernel_rfl) rfl rfl ?_)
        intro w hS
        have hC : Core B [] [Ro.sl (Kd.int .i64) (some a4) a3 a0, Ro.sl (Kd.int .i64) A12 C13 l11] _ := ⟨_, _, hS⟩
        refine ⟨hC, ?_⟩
        refine ED.quick hN hF hC [20, 21] [3, 12, 13, 14, 34, 38] 1 [(3, .pointer (some ⟨a1, 0, none⟩)), (12, .slice (some a4) a0.length a3), (13, .int .i64 (a0.length : Int)), (14, .int .i64 b0), (34, .slice o7 a5.length u7), (38, .pointer (some ⟨a1, 1, none⟩))] #[true, true, true, true, true, true, true, true, true, true, true, true, true, true, true, true, true, true, true, true, true, true, false] (by kernel_rfl) (by kernel_rfl) ?_
        refine ED.one 22 0 #[true, true, true, true, true, true, true, true, true, true, true, true, true, true, true, true, true, true, true, true, true, true, true] (by kernel_rfl) (by kernel_rfl) (by kernel_rfl) (EO.storeBox (os' := Ass.deep 94 96 kS96 e1 i7 a2 :: Ass.own 3 (Kd.int .i64) (some ⟨y6, 0, none⟩) 1 a9 :: Ass.box 91 a1 [.slice e1 a2.length i7, .slice o7 a5.length u7] :: Ass.own 3 (Kd.int .i64) o7 u7 a5 :: os) hS 2 rfl 66 1 (.slice o7 a5.length u7) [.slice e1 a2.length i7, .slice o7 a5.length u7] (by kernel_rfl) (by kernel_rfl) (by kernel_rfl) (by kernel_rfl) (by kernel_rfl) (by kernel_rfl) rfl rfl ?_)
        intro w hS
        have hC : Core B [] [Ro.sl (Kd.int .i64) (some a4) a3 a0, Ro.sl (Kd.int .i64) A12 C13 l11] _ := ⟨_, _, hS⟩
        refine ⟨hC, ?_⟩
        refine ED.done (by kernel_rfl) ?_
        refine EQ.to ?_
        refine EQ.keep [3, 12, 13, 14] [(3, .pointer (some ⟨a1, 0, none⟩)), (12, .slice (some a4) a0.length a3), (13, .int .i64 (a0.length : Int)), (14, .int .i64 b0)] (by kernel_rfl) ?_
        exact fun a ha => ⟨(some ⟨y6, 0, none⟩), 1, e1, i7, o7, u7, ha, (hS.re [3, 3, 2, 3] [] rfl (sub_cons 0 rfl (sub_cons 1 rfl (sub_tail (sub_tail (sub_self))))))⟩
      ·refine EO.lit hS (Kd.int .i64) 3 66 1 #[(0, .int .i64 (mn (mx (a0.getD b0.toNat 0) 0) 4096))] [.int .i64 (mn (mx (a0.getD b0.toNat 0) 0) 4096)] a9 33 (by kernel_rfl) (by kernel_rfl) (by kernel_rfl) (fun _ => (by kernel_rfl)) (by rw [b5]; rfl) (by kernel_rfl) (fun w G hr => (by rw [b5]; exact ⟨[.int .i64 (mn (mx (a0.getD b0.toNat 0) 0) 4096)], [], rfl, rfl, rfl⟩)) ?_
       intro c8 w hS
       have hC : Core B [] [Ro.sl (Kd.int .i64) (some a4) a3 a0, Ro.sl (Kd.int .i64) A12 C13 l11] _ := ⟨_, _, hS⟩
       refine ⟨hC, ?_⟩
       refine ED.at' #[true, true, true, true, true, true, true, false, true, true, true, false, true, true, true, true, false, false, false, false, false, false, false] (by kernel_rfl) ?_
       refine ED.two 7 11 8 (by kernel_rfl) (by kernel_rfl) ?_ ?_
       ·have hS := St.as (os' := Ass.deep 94 96 kS96 (some ⟨c4, 0, none⟩) 1 ([([] : List S96)] : List (List S96)) :: Ass.own 3 (Kd.int .i64) (some ⟨c8, 0, none⟩) 1 a9 :: Ass.box 91 a1 [.slice b2 b1.length b3, .slice a7 a6.length a8] :: Ass.deep 94 96 kS96 b2 b3 b1 :: Ass.own 3 (Kd.int .i64) a7 a8 a6 :: os) (St.fold (B := B) (os := _) (rs := _) (et := 94) (et' := 96) (K := kS96) (hs := [(none, ([] : List S96).length, 0)]) (xs := ([([] : List S96)] : List (List S96))) ⟨rfl, trivial⟩ (St.re hS [1, 2] [] rfl sub_self)) rfl
        refine EO.appendDeep hS 89 89 24 3 0 kS96 b2 b3 b1 rfl (some ⟨c4, 0, none⟩) 1 ([([] : List S96)] : List (List S96)) rfl a2 b9 (fun e2 i8 => Ass.deep 94 96 kS96 e2 i8 a2 :: Ass.own 3 (Kd.int .i64) (some ⟨c8, 0, none⟩) 1 a9 :: Ass.box 91 a1 [.slice b2 b1.length b3, .slice a7 a6.length a8] :: Ass.own 3 (Kd.int .i64) a7 a8 a6 :: os) 25 (by kernel_rfl) (by kernel_rfl) (by kernel_rfl) (by kernel_rfl) b8 (fun _ _ => rfl) ?_
        intro e2 i8 w hS
        have hC : Core B [] [Ro.sl (Kd.int .i64) (some a4) a3 a0, Ro.sl (Kd.int .i64) A12 C13 l11] _ := ⟨_, _, hS⟩
        refine ⟨hC, ?_⟩
        refine ED.at' #[true, true, true, true, true, true, true, true, true, true, true, false, true, true, true, true, false, false, false, false, false, false, false] (by kernel_rfl) ?_
        refine ED.one 11 7 #[true, true, true, true, true, true, true, true, true, true, true, true, true, true, true, true, false, false, false, false, false, false, false] (by kernel_rfl) (by kernel_rfl) (by kernel_rfl) (EO.Y (YO.loadBox hS 2 rfl 66 1 1 (.slice a7 a6.length a8) 29 (by kernel_rfl) (by kernel_rfl) (by kernel_rfl) (by kernel_rfl)) ?_)
        have hC : Core B [] [Ro.sl (Kd.int .i64) (some a4) a3 a0, Ro.sl (Kd.int .i64) A12 C13 l11] _ := ⟨_, _, hS⟩
        refine ⟨hC, ?_⟩
        refine ED.one 16 6 #[true, true, true, true, true, true, true, true, true, true, true, true, true, true, true, true, true, false, false, false, false, false, false] (by kernel_rfl) (by kernel_rfl) (by kernel_rfl) (EO.append hS 66 66 3 8 3 (Kd.int .i64) a7 a8 a6 rfl (some ⟨c8, 0, none⟩) 1 a9 (Rd.own 1 3 rfl) a5 b7 (fun o8 u8 => Ass.deep 94 96 kS96 e2 i8 a2 :: Ass.own 3 (Kd.int .i64) (some ⟨c8, 0, none⟩) 1 a9 :: Ass.box 91 a1 [.slice b2 b1.length b3, .slice a7 a6.length a8] :: Ass.own 3 (Kd.int .i64) o8 u8 a5 :: os) 34 (by kernel_rfl) (by kernel_rfl) (by kernel_rfl) (by kernel_rfl) b6 (fun _ _ => rfl) ?_)
        intro o8 u8 w hS
        have hC : Core B [] [Ro.sl (Kd.int .i64) (some a4) a3 a0, Ro.sl (Kd.int .i64) A12 C13 l11] _ := ⟨_, _, hS⟩
        refine ⟨hC, ?_⟩
        refine ED.quick hN hF hC [17, 18] [3, 12, 13, 14, 19, 25, 34, 36] 4 [(3, .pointer (some ⟨a1, 0, none⟩)), (12, .slice (some a4) a0.length a3), (13, .int .i64 (a0.length : Int)), (14, .int .i64 b0), (19, .pointer (some ⟨a1, 0, none⟩)), (25, .slice e2 a2.length i8), (34, .slice o8 a5.length u8), (36, .pointer (some ⟨a1, 0, none⟩))] #[true, true, true, true, true, true, true, true, true, true, true, true, true, true, true, true, true, true, true, false, false, false, false] (by kernel_rfl) (by kernel_rfl) ?_
        refine ED.one 19 3 #[true, true, true, true, true, true, true, true, true, true, true, true, true, true, true, true, true, true, true, true, false, false, false] (by kernel_rfl) (by kernel_rfl) (by kernel_rfl) (EO.storeBox (os' := Ass.deep 94 96 kS96 e2 i8 a2 :: Ass.own 3 (Kd.int .i64) (some ⟨c8, 0, none⟩) 1 a9 :: Ass.box 91 a1 [.slice e2 a2.length i8, .slice a7 a6.length a8] :: Ass.own 3 (Kd.int .i64) o8 u8 a5 :: os) hS 2 rfl 89 0 (.slice e2 a2.length i8) [.slice e2 a2.length i8, .slice a7 a6.length a8] (by kernel_rfl) (by kernel_rfl) (by kernel_rfl) (by kernel_rfl) (by kernel_rfl) (by kernel_rfl) rfl rfl ?_)
        intro w hS
        have hC : Core B [] [Ro.sl (Kd.int .i64) (some a4) a3 a0, Ro.sl (Kd.int .i64) A12 C13 l11] _ := ⟨_, _, hS⟩
        refine ⟨hC, ?_⟩
        refine ED.quick hN hF hC [20, 21] [3, 12, 13, 14, 34, 38] 1 [(3, .pointer (some ⟨a1, 0, none⟩)), (12, .slice (some a4) a0.length a3), (13, .int .i64 (a0.length : Int)), (14, .int .i64 b0), (34, .slice o8 a5.length u8), (38, .pointer (some ⟨a1, 1, none⟩))] #[true, true, true, true, true, true, true, true, true, true, true, true, true, true, true, true, true, true, true, true, true, true, false] (by kernel_rfl) (by kernel_rfl) ?_
        refine ED.one 22 0 #[true, true, true, true, true, true, true, true, true, true, true, true, true, true, true, true, true, true, true, true, true, true, true] (by kernel_rfl) (by kernel_rfl) (by kernel_rfl) (EO.storeBox (os' := Ass.deep 94 96 kS96 e2 i8 a2 :: Ass.own 3 (Kd.int .i64) (some ⟨c8, 0, none⟩) 1 a9 :: Ass.box 91 a1 [.slice e2 a2.length i8, .slice o8 a5.length u8] :: Ass.own 3 (Kd.int .i64) o8 u8 a5 :: os) hS 2 rfl 66 1 (.slice o8 a5.length u8) [.slice e2 a2.length i8, .slice o8 a5.length u8] (by kernel_rfl) (by kernel_rfl) (by kernel_rfl) (by kernel_rfl) (by kernel_rfl) (by kernel_rfl) rfl rfl ?_)
        intro w hS
        have hC : Core B [] [Ro.sl (Kd.int .i64) (some a4) a3 a0, Ro.sl (Kd.int .i64) A12 C13 l11] _ := ⟨_, _, hS⟩
        refine ⟨hC, ?_⟩
        refine ED.done (by kernel_rfl) ?_
        refine EQ.to ?_
        refine EQ.keep [3, 12, 13, 14] [(3, .pointer (some ⟨a1, 0, none⟩)), (12, .slice (some a4) a0.length a3), (13, .int .i64 (a0.length : Int)), (14, .int .i64 b0)] (by kernel_rfl) ?_
        exact fun a ha => ⟨(some ⟨c8, 0, none⟩), 1, e2, i8, o8, u8, ha, (hS.re [3, 3, 2, 3] [] rfl (sub_cons 0 rfl (sub_cons 1 rfl (sub_tail (sub_tail (sub_self))))))⟩
       ·refine EO.Y (YO.loadBox hS 3 rfl 66 1 1 (.slice a7 a6.length a8) 29 (by kernel_rfl) (by kernel_rfl) (by kernel_rfl) (by kernel_rfl)) ?_
        have hC : Core B [] [Ro.sl (Kd.int .i64) (some a4) a3 a0, Ro.sl (Kd.int .i64) A12 C13 l11] _ := ⟨_, _, hS⟩
        refine ⟨hC, ?_⟩
        refine ED.at' #[true, true, true, true, true, true, true, false, true, true, true, true, true, true, true, true, false, false, false, false, false, false, false] (by kernel_rfl) ?_
        have hS := St.as (os' := Ass.deep 94 96 kS96 (some ⟨c4, 0, none⟩) 1 ([([] : List S96)] : List (List S96)) :: Ass.own 3 (Kd.int .i64) (some ⟨c8, 0, none⟩) 1 a9 :: Ass.box 91 a1 [.slice b2 b1.length b3, .slice a7 a6.length a8] :: Ass.deep 94 96 kS96 b2 b3 b1 :: Ass.own 3 (Kd.int .i64) a7 a8 a6 :: os) (St.fold (B := B) (os := _) (rs := _) (et := 94) (et' := 96) (K := kS96) (hs := [(none, ([] : List S96).length, 0)]) (xs := ([([] : List S96)] : List (List S96))) ⟨rfl, trivial⟩ (St.re hS [1, 2] [] rfl sub_self)) rfl
        refine ED.one 7 7 #[true, true, true, true, true, true, true, true, true, true, true, true, true, true, true, true, false, false, false, false, false, false, false] (by kernel_rfl) (by kernel_rfl) (by kernel_rfl) (EO.appendDeep hS 89 89 24 3 0 kS96 b2 b3 b1 rfl (some ⟨c4, 0, none⟩) 1 ([([] : List S96)] : List (List S96)) rfl a2 b9 (fun e3 i9 => Ass.deep 94 96 kS96 e3 i9 a2 :: Ass.own 3 (Kd.int .i64) (some ⟨c8, 0, none⟩) 1 a9 :: Ass.box 91 a1 [.slice b2 b1.length b3, .slice a7 a6.length a8] :: Ass.own 3 (Kd.int .i64) a7 a8 a6 :: os) 25 (by kernel_rfl) (by kernel_rfl) (by kernel_rfl) (by kernel_rfl) b8 (fun _ _ => rfl) ?_)
        intro e3 i9 w hS
        have hC : Core B [] [Ro.sl (Kd.int .i64) (some a4) a3 a0, Ro.sl (Kd.int .i64) A12 C13 l11] _ := ⟨_, _, hS⟩
        refine ⟨hC, ?_⟩
        refine ED.one 16 6 #[true, true, true, true, true, true, true, true, true, true, true, true, true, true, true, true, true, false, false, false, false, false, false] (by kernel_rfl) (by kernel_rfl) (by kernel_rfl) (EO.append hS 66 66 3 8 3 (Kd.int .i64) a7 a8 a6 rfl (some ⟨c8, 0, none⟩) 1 a9 (Rd.own 1 3 rfl) a5 b7 (fun o9 u9 => Ass.deep 94 96 kS96 e3 i9 a2 :: Ass.own 3 (Kd.int .i64) (some ⟨c8, 0, none⟩) 1 a9 :: Ass.box 91 a1 [.slice b2 b1.length b3, .slice a7 a6.length a8] :: Ass.own 3 (Kd.int .i64) o9 u9 a5 :: os) 34 (by kernel_rfl) (by kernel_rfl) (by kernel_rfl) (by kernel_rfl) b6 (fun _ _ => rfl) ?_)
        intro o9 u9 w hS
        have hC : Core B [] [Ro.sl (Kd.int .i64) (some a4) a3 a0, Ro.sl (Kd.int .i64) A12 C13 l11] _ := ⟨_, _, hS⟩
        refine ⟨hC, ?_⟩
        refine ED.quick hN hF hC [17, 18] [3, 12, 13, 14, 19, 25, 34, 36] 4 [(3, .pointer (some ⟨a1, 0, none⟩)), (12, .slice (some a4) a0.length a3), (13, .int .i64 (a0.length : Int)), (14, .int .i64 b0), (19, .pointer (some ⟨a1, 0, none⟩)), (25, .slice e3 a2.length i9), (34, .slice o9 a5.length u9), (36, .pointer (some ⟨a1, 0, none⟩))] #[true, true, true, true, true, true, true, true, true, true, true, true, true, true, true, true, true, true, true, false, false, false, false] (by kernel_rfl) (by kernel_rfl) ?_
        refine ED.one 19 3 #[true, true, true, true, true, true, true, true, true, true, true, true, true, true, true, true, true, true, true, true, false, false, false] (by kernel_rfl) (by kernel_rfl) (by kernel_rfl) (EO.storeBox (os' := Ass.deep 94 96 kS96 e3 i9 a2 :: Ass.own 3 (Kd.int .i64) (some ⟨c8, 0, none⟩) 1 a9 :: Ass.box 91 a1 [.slice e3 a2.length i9, .slice a7 a6.length a8] :: Ass.own 3 (Kd.int .i64) o9 u9 a5 :: os) hS 2 rfl 89 0 (.slice e3 a2.length i9) [.slice e3 a2.length i9, .slice a7 a6.length a8] (by kernel_rfl) (by kernel_rfl) (by kernel_rfl) (by kernel_rfl) (by kernel_rfl) (by kernel_rfl) rfl rfl ?_)
        intro w hS
        have hC : Core B [] [Ro.sl (Kd.int .i64) (some a4) a3 a0, Ro.sl (Kd.int .i64) A12 C13 l11] _ := ⟨_, _, hS⟩
        refine ⟨hC, ?_⟩
        refine ED.quick hN hF hC [20, 21] [3, 12, 13, 14, 34, 38] 1 [(3, .pointer (some ⟨a1, 0, none⟩)), (12, .slice (some a4) a0.length a3), (13, .int .i64 (a0.length : Int)), (14, .int .i64 b0), (34, .slice o9 a5.length u9), (38, .pointer (some ⟨a1, 1, none⟩))] #[true, true, true, true, true, true, true, true, true, true, true, true, true, true, true, true, true, true, true, true, true, true, false] (by kernel_rfl) (by kernel_rfl) ?_
        refine ED.one 22 0 #[true, true, true, true, true, true, true, true, true, true, true, true, true, true, true, true, true, true, true, true, true, true, true] (by kernel_rfl) (by kernel_rfl) (by kernel_rfl) (EO.storeBox (os' := Ass.deep 94 96 kS96 e3 i9 a2 :: Ass.own 3 (Kd.int .i64) (some ⟨c8, 0, none⟩) 1 a9 :: Ass.box 91 a1 [.slice e3 a2.length i9, .slice o9 a5.length u9] :: Ass.own 3 (Kd.int .i64) o9 u9 a5 :: os) hS 2 rfl 66 1 (.slice o9 a5.length u9) [.slice e3 a2.length i9, .slice o9 a5.length u9] (by kernel_rfl) (by kernel_rfl) (by kernel_rfl) (by kernel_rfl) (by kernel_rfl) (by kernel_rfl) rfl rfl ?_)
        intro w hS
        have hC : Core B [] [Ro.sl (Kd.int .i64) (some a4) a3 a0, Ro.sl (Kd.int .i64) A12 C13 l11] _ := ⟨_, _, hS⟩
        refine ⟨hC, ?_⟩
        refine ED.done (by kernel_rfl) ?_
        refine EQ.to ?_
        refine EQ.keep [3, 12, 13, 14] [(3, .pointer (some ⟨a1, 0, none⟩)), (12, .slice (some a4) a0.length a3), (13, .int .i64 (a0.length : Int)), (14, .int .i64 b0)] (by kernel_rfl) ?_
        exact fun a ha => ⟨(some ⟨c8, 0, none⟩), 1, e3, i9, o9, u9, ha, (hS.re [3, 3, 2, 3] [] rfl (sub_cons 0 rfl (sub_cons 1 rfl (sub_tail (sub_tail (sub_self))))))⟩
     ·refine EO.Y (YO.loadBox hS 2 rfl 66 1 1 (.slice a7 a6.length a8) 29 (by kernel_rfl) (by kernel_rfl) (by kernel_rfl) (by kernel_rfl)) ?_
      have hC : Core B [] [Ro.sl (Kd.int .i64) (some a4) a3 a0, Ro.sl (Kd.int .i64) A12 C13 l11] _ := ⟨_, _, hS⟩
      refine ⟨hC, ?_⟩
      refine ED.at' #[true, true, true, true, true, false, true, false, true, true, true, true, true, true, true, false, false, false, false, false, false, false, false] (by kernel_rfl) ?_
      refine ED.two 5 15 9 (by kernel_rfl) (by kernel_rfl) ?_ ?_
      ·refine EO.Y (YO.loadBox hS 2 rfl 89 0 1 (.slice b2 b1.length b3) 23 (by kernel_rfl) (by kernel_rfl) (by kernel_rfl) (by kernel_rfl)) ?_
       have hC : Core B [] [Ro.sl (Kd.int .i64) (some a4) a3 a0, Ro.sl (Kd.int .i64) A12 C13 l11] _ := ⟨_, _, hS⟩
       refine ⟨hC, ?_⟩
       refine ED.at' #[true, true, true, true, true, true, true, false, true, true, true, true, true, true, true, false, false, false, false, false, false, false, false] (by kernel_rfl) ?_
       refine ED.two 7 15 8 (by kernel_rfl) (by kernel_rfl) ?_ ?_
       ·have hS := St.as (os' := Ass.deep 94 96 kS96 (some ⟨c4, 0, none⟩) 1 ([([] : List S96)] : List (List S96)) :: Ass.box 91 a1 [.slice b2 b1.length b3, .slice a7 a6.length a8] :: Ass.deep 94 96 kS96 b2 b3 b1 :: Ass.own 3 (Kd.int .i64) a7 a8 a6 :: os) (St.fold (B := B) (os := _) (rs := _) (et := 94) (et' := 96) (K := kS96) (hs := [(none, ([] : List S96).length, 0)]) (xs := ([([] : List S96)] : List (List S96))) ⟨rfl, trivial⟩ (St.re hS [0, 1] [] rfl sub_self)) rfl
        refine EO.appendDeep hS 89 89 24 2 0 kS96 b2 b3 b1 rfl (some ⟨c4, 0, none⟩) 1 ([([] : List S96)] : List (List S96)) rfl a2 b9 (fun e4 j0 => Ass.deep 94 96 kS96 e4 j0 a2 :: Ass.box 91 a1 [.slice b2 b1.length b3, .slice a7 a6.length a8] :: Ass.own 3 (Kd.int .i64) a7 a8 a6 :: os) 25 (by kernel_rfl) (by kernel_rfl) (by kernel_rfl) (by kernel_rfl) b8 (fun _ _ => rfl) ?_
        intro e4 j0 w hS
        have hC : Core B [] [Ro.sl (Kd.int .i64) (some a4) a3 a0, Ro.sl (Kd.int .i64) A12 C13 l11] _ := ⟨_, _, hS⟩
        refine ⟨hC, ?_⟩
        refine ED.at' #[true, true, true, true, true, true, true, true, true, true, true, true, true, true, true, false, false, false, false, false, false, false, false] (by kernel_rfl) ?_
        refine ED.one 15 7 #[true, true, true, true, true, true, true, true, true, true, true, true, true, true, true, true, false, false, false, false, false, false, false] (by kernel_rfl) (by kernel_rfl) (by kernel_rfl) (EO.lit hS (Kd.int .i64) 3 66 1 #[(0, .int .i64 (mn (mx (a0.getD b0.toNat 0) 0) 4096))] [.int .i64 (mn (mx (a0.getD b0.toNat 0) 0) 4096)] a9 33 (by kernel_rfl) (by kernel_rfl) (by kernel_rfl) (fun _ => (by kernel_rfl)) (by rw [b5]; rfl) (by kernel_rfl) (fun w G hr => (by rw [b5]; exact ⟨[.int .i64 (mn (mx (a0.getD b0.toNat 0) 0) 4096)], [], rfl, rfl, rfl⟩)) ?_)
        intro A4 w hS
        have hC : Core B [] [Ro.sl (Kd.int .i64) (some a4) a3 a0, Ro.sl (Kd.int .i64) A12 C13 l11] _ := ⟨_, _, hS⟩
        refine ⟨hC, ?_⟩
        refine ED.one 16 6 #[true, true, true, true, true, true, true, true, true, true, true, true, true, true, true, true, true, false, false, false, false, false, false] (by kernel_rfl) (by kernel_rfl) (by kernel_rfl) (EO.append hS 66 66 3 8 3 (Kd.int .i64) a7 a8 a6 rfl (some ⟨A4, 0, none⟩) 1 a9 (Rd.own 0 3 rfl) a5 b7 (fun p0 v0 => Ass.own 3 (Kd.int .i64) (some ⟨A4, 0, none⟩) 1 a9 :: Ass.deep 94 96 kS96 e4 j0 a2 :: Ass.box 91 a1 [.slice b2 b1.length b3, .slice a7 a6.length a8] :: Ass.own 3 (Kd.int .i64) p0 v0 a5 :: os) 34 (by kernel_rfl) (by kernel_rfl) (by kernel_rfl) (by kernel_rfl) b6 (fun _ _ => rfl) ?_)
        intro p0 v0 w hS
        have hC : Core B [] [Ro.sl (Kd.int .i64) (some a4) a3 a0, Ro.sl (Kd.int .i64) A12 C13 l11] _ := ⟨_, _, hS⟩
        refine ⟨hC, ?_⟩
        refine ED.quick hN hF hC [17, 18] [3, 12, 13, 14, 19, 25, 34, 36] 4 [(3, .pointer (some ⟨a1, 0, none⟩)), (12, .slice (some a4) a0.length a3), (13, .int .i64 (a0.length : Int)), (14, .int .i64 b0), (19, .pointer (some ⟨a1, 0, none⟩)), (25, .slice e4 a2.length j0), (34, .slice p0 a5.length v0), (36, .pointer (some ⟨a1, 0, none⟩))] #[true, true, true, true, true, true, true, true, true, true, true, true, true, true, true, true, true, true, true, false, false, false, false] (by kernel_rfl) (by kernel_rfl) ?_
        refine ED.one 19 3 #[true, true, true, true, true, true, true, true, true, true, true, true, true, true, true, true, true, true, true, true, false, false, false] (by kernel_rfl) (by kernel_rfl) (by kernel_rfl) (EO.storeBox (os' := Ass.own 3 (Kd.int .i64) (some ⟨A4, 0, none⟩) 1 a9 :: Ass.deep 94 96 kS96 e4 j0 a2 :: Ass.box 91 a1 [.slice e4 a2.length j0, .slice a7 a6.length a8] :: Ass.own 3 (Kd.int .i64) p0 v0 a5 :: os) hS 2 rfl 89 0 (.slice e4 a2.length j0) [.slice e4 a2.length j0, .slice a7 a6.length a8] (by kernel_rfl) (by kernel_rfl) (by kernel_rfl) (by kernel_rfl) (by kernel_rfl) (by kernel_rfl) rfl rfl ?_)
        intro w hS
        have hC : Core B [] [Ro.sl (Kd.int .i64) (some a4) a3 a0, Ro.sl (Kd.int .i64) A12 C13 l11] _ := ⟨_, _, hS⟩
        refine ⟨hC, ?_⟩
        refine ED.quick hN hF hC [20, 21] [3, 12, 13, 14, 34, 38] 1 [(3, .pointer (some ⟨a1, 0, none⟩)), (12, .slice (some a4) a0.length a3), (13, .int .i64 (a0.length : Int)), (14, .int .i64 b0), (34, .slice p0 a5.length v0), (38, .pointer (some ⟨a1, 1, none⟩))] #[true, true, true, true, true, true, true, true, true, true, true, true, true, true, true, true, true, true, true, true, true, true, false] (by kernel_rfl) (by kernel_rfl) ?_
        refine ED.one 22 0 #[true, true, true, true, true, true, true, true, true, true, true, true, true, true, true, true, true, true, true, true, true, true, true] (by kernel_rfl) (by kernel_rfl) (by kernel_rfl) (EO.storeBox (os' := Ass.own 3 (Kd.int .i64) (some ⟨A4, 0, none⟩) 1 a9 :: Ass.deep 94 96 kS96 e4 j0 a2 :: Ass.box 91 a1 [.slice e4 a2.length j0, .slice p0 a5.length v0] :: Ass.own 3 (Kd.int .i64) p0 v0 a5 :: os) hS 2 rfl 66 1 (.slice p0 a5.length v0) [.slice e4 a2.length j0, .slice p0 a5.length v0] (by kernel_rfl) (by kernel_rfl) (by kernel_rfl) (by kernel_rfl) (by kernel_rfl) (by kernel_rfl) rfl rfl ?_)
        intro w hS
        have hC : Core B [] [Ro.sl (Kd.int .i64) (some a4) a3 a0, Ro.sl (Kd.int .i64) A12 C13 l11] _ := ⟨_, _, hS⟩
        refine ⟨hC, ?_⟩
        refine ED.done (by kernel_rfl) ?_
        refine EQ.to ?_
        refine EQ.keep [3, 12, 13, 14] [(3, .pointer (some ⟨a1, 0, none⟩)), (12, .slice (some a4) a0.length a3), (13, .int .i64 (a0.length : Int)), (14, .int .i64 b0)] (by kernel_rfl) ?_
        exact fun a ha => ⟨(some ⟨A4, 0, none⟩), 1, e4, j0, p0, v0, ha, (hS.re [3, 3, 3, 3] [] rfl (sub_cons 0 rfl (sub_cons 1 rfl (sub_tail (sub_tail (sub_self))))))⟩
       ·refine EO.lit hS (Kd.int .i64) 3 66 1 #[(0, .int .i64 (mn (mx (a0.getD b0.toNat 0) 0) 4096))] [.int .i64 (mn (mx (a0.getD b0.toNat 0) 0) 4096)] a9 33 (by kernel_rfl) (by kernel_rfl) (by kernel_rfl) (fun _ => (by kernel_rfl)) (by rw [b5]; rfl) (by kernel_rfl) (fun w G hr => (by rw [b5]; exact ⟨[.int .i64 (mn (mx (a0.getD b0.toNat 0) 0) 4096)], [], rfl, rfl, rfl⟩)) ?_
        intro y7 w hS
        have hC : Core B [] [Ro.sl (Kd.int .i64) (some a4) a3 a0, Ro.sl (Kd.int .i64) A12 C13 l11] _ := ⟨_, _, hS⟩
        refine ⟨hC, ?_⟩
        refine ED.at' #[true, true, true, true, true, true, true, false, true, true, true, true, true, true, true, true, false, false, false, false, false, false, false] (by kernel_rfl) ?_
        have hS := St.as (os' := Ass.deep 94 96 kS96 (some ⟨c4, 0, none⟩) 1 ([([] : List S96)] : List (List S96)) :: Ass.own 3 (Kd.int .i64) (some ⟨y7, 0, none⟩) 1 a9 :: Ass.box 91 a1 [.slice b2 b1.length b3, .slice a7 a6.length a8] :: Ass.deep 94 96 kS96 b2 b3 b1 :: Ass.own 3 (Kd.int .i64) a7 a8 a6 :: os) (St.fold (B := B) (os := _) (rs := _) (et := 94) (et' := 96) (K := kS96) (hs := [(none, ([] : List S96).length, 0)]) (xs := ([([] : List S96)] : List (List S96))) ⟨rfl, trivial⟩ (St.re hS [1, 2] [] rfl sub_self)) rfl
        refine ED.one 7 7 #[true, true, true, true, true, true, true, true, true, true, true, true, true, true, true, true, false, false, false, false, false, false, false] (by kernel_rfl) (by kernel_rfl) (by kernel_rfl) (EO.appendDeep hS 89 89 24 3 0 kS96 b2 b3 b1 rfl (some ⟨c4, 0, none⟩) 1 ([([] : List S96)] : List (List S96)) rfl a2 b9 (fun e5 j1 => Ass.deep 94 96 kS96 e5 j1 a2 :: Ass.own 3 (Kd.int .i64) (some ⟨y7, 0, none⟩) 1 a9 :: Ass.box 91 a1 [.slice b2 b1.length b3, .slice a7 a6.length a8] :: Ass.own 3 (Kd.int .i64) a7 a8 a6 :: os) 25 (by kernel_rfl) (by kernel_rfl) (by kernel_rfl) (by kernel_rfl) b8 (fun _ _ => rfl) ?_)
        intro e5 j1 w hS
        have hC : Core B [] [Ro.sl (Kd.int .i64) (some a4) a3 a0, Ro.sl (Kd.int .i64) A12 C13 l11] _ := ⟨_, _, hS⟩
        refine ⟨hC, ?_⟩
        refine ED.one 16 6 #[true, true, true, true, true, true, true, true, true, true, true, true, true, true, true, true, true, false, false, false, false, false, false] (by kernel_rfl) (by kernel_rfl) (by kernel_rfl) (EO.append hS 66 66 3 8 3 (Kd.int .i64) a7 a8 a6 rfl (some ⟨y7, 0, none⟩) 1 a9 (Rd.own 1 3 rfl) a5 b7 (fun p1 v1 => Ass.deep 94 96 kS96 e5 j1 a2 :: Ass.own 3 (Kd.int .i64) (some ⟨y7, 0, none⟩) 1 a9 :: Ass.box 91 a1 [.slice b2 b1.length b3, .slice a7 a6.length a8] :: Ass.own 3 (Kd.int .i64) p1 v1 a5 :: os) 34 (by kernel_rfl) (by kernel_rfl) (by kernel_rfl) (by kernel_rfl) b6 (fun _ _ => rfl) ?_)
        intro p1 v1 w hS
        have hC : Core B [] [Ro.sl (Kd.int .i64) (some a4) a3 a0, Ro.sl (Kd.int .i64) A12 C13 l11] _ := ⟨_, _, hS⟩
        refine ⟨hC, ?_⟩
        refine ED.quick hN hF hC [17, 18] [3, 12, 13, 14, 19, 25, 34, 36] 4 [(3, .pointer (some ⟨a1, 0, none⟩)), (12, .slice (some a4) a0.length a3), (13, .int .i64 (a0.length : Int)), (14, .int .i64 b0), (19, .pointer (some ⟨a1, 0, none⟩)), (25, .slice e5 a2.length j1), (34, .slice p1 a5.length v1), (36, .pointer (some ⟨a1, 0, none⟩))] #[true, true, true, true, true, true, true, true, true, true, true, true, true, true, true, true, true, true, true, false, false, false, false] (by kernel_rfl) (by kernel_rfl) ?_
        refine ED.one 19 3 #[true, true, true, true, true, true, true, true, true, true, true, true, true, true, true, true, true, true, true, true, false, false, false] (by kernel_rfl) (by kernel_rfl) (by kernel_rfl) (EO.storeBox (os' := Ass.deep 94 96 kS96 e5 j1 a2 :: Ass.own 3 (Kd.int .i64) (some ⟨y7, 0, none⟩) 1 a9 :: Ass.box 91 a1 [.slice e5 a2.length j1, .slice a7 a6.length a8] :: Ass.own 3 (Kd.int .i64) p1 v1 a5 :: os) hS 2 rfl 89 0 (.slice e5 a2.length j1) [.slice e5 a2.length j1, .slice a7 a6.length a8] (by kernel_rfl) (by kernel_rfl) (by kernel_rfl) (by kernel_rfl) (by kernel_rfl) (by kernel_rfl) rfl rfl ?_)
        intro w hS
        have hC : Core B [] [Ro.sl (Kd.int .i64) (some a4) a3 a0, Ro.sl (Kd.int .i64) A12 C13 l11] _ := ⟨_, _, hS⟩
        refine ⟨hC, ?_⟩
        refine ED.quick hN hF hC [20, 21] [3, 12, 13, 14, 34, 38] 1 [(3, .pointer (some ⟨a1, 0, none⟩)), (12, .slice (some a4) a0.length a3), (13, .int .i64 (a0.length : Int)), (14, .int .i64 b0), (34, .slice p1 a5.length v1), (38, .pointer (some ⟨a1, 1, none⟩))] #[true, true, true, true, true, true, true, true, true, true, true, true, true, true, true, true, true, true, true, true, true, true, false] (by kernel_rfl) (by kernel_rfl) ?_
        refine ED.one 22 0 #[true, true, true, true, true, true, true, true, true, true, true, true, true, true, true, true, true, true, true, true, true, true, true] (by kernel_rfl) (by kernel_rfl) (by kernel_rfl) (EO.storeBox (os' := Ass.deep 94 96 kS96 e5 j1 a2 :: Ass.own 3 (Kd.int .i64) (some ⟨y7, 0, none⟩) 1 a9 :: Ass.box 91 a1 [.slice e5 a2.length j1, .slice p1 a5.length v1] :: Ass.own 3 (Kd.int .i64) p1 v1 a5 :: os) hS 2 rfl 66 1 (.slice p1 a5.length v1) [.slice e5 a2.length j1, .slice p1 a5.length v1] (by kernel_rfl) (by kernel_rfl) (by kernel_rfl) (by kernel_rfl) (by kernel_rfl) (by kernel_rfl) rfl rfl ?_)
        intro w hS
        have hC : Core B [] [Ro.sl (Kd.int .i64) (some a4) a3 a0, Ro.sl (Kd.int .i64) A12 C13 l11] _ := ⟨_, _, hS⟩
        refine ⟨hC, ?_⟩
        refine ED.done (by kernel_rfl) ?_
        refine EQ.to ?_
        refine EQ.keep [3, 12, 13, 14] [(3, .pointer (some ⟨a1, 0, none⟩)), (12, .slice (some a4) a0.length a3), (13, .int .i64 (a0.length : Int)), (14, .int .i64 b0)] (by kernel_rfl) ?_
        exact fun a ha => ⟨(some ⟨y7, 0, none⟩), 1, e5, j1, p1, v1, ha, (hS.re [3, 3, 2, 3] [] rfl (sub_cons 0 rfl (sub_cons 1 rfl (sub_tail (sub_tail (sub_self))))))⟩
      ·refine EO.lit hS (Kd.int .i64) 3 66 1 #[(0, .int .i64 (mn (mx (a0.getD b0.toNat 0) 0) 4096))] [.int .i64 (mn (mx (a0.getD b0.toNat 0) 0) 4096)] a9 33 (by kernel_rfl) (by kernel_rfl) (by kernel_rfl) (fun _ => (by kernel_rfl)) (by rw [b5]; rfl) (by kernel_rfl) (fun w G hr => (by rw [b5]; exact ⟨[.int .i64 (mn (mx (a0.getD b0.toNat 0) 0) 4096)], [], rfl, rfl, rfl⟩)) ?_
       intro y8 w hS
       have hC : Core B [] [Ro.sl (Kd.int .i64) (some a4) a3 a0, Ro.sl (Kd.int .i64) A12 C13 l11] _ := ⟨_, _, hS⟩
       refine ⟨hC, ?_⟩
       refine ED.at' #[true, true, true, true, true, false, true, false, true, true, true, true, true, true, true, true, false, false, false, false, false, false, false] (by kernel_rfl) ?_
       refine ED.one 5 8 #[true, true, true, true, true, true, true, false, true, true, true, true, true, true, true, true, false, false, false, false, false, false, false] (by kernel_rfl) (by kernel_rfl) (by kernel_rfl) (EO.Y (YO.loadBox hS 3 rfl 89 0 1 (.slice b2 b1.length b3) 23 (by kernel_rfl) (by kernel_rfl) (by kernel_rfl) (by kernel_rfl)) ?_)
       have hC : Core B [] [Ro.sl (Kd.int .i64) (some a4) a3 a0, Ro.sl (Kd.int .i64) A12 C13 l11] _ := ⟨_, _, hS⟩
       refine ⟨hC, ?_⟩
       have hS := St.as (os' := Ass.deep 94 96 kS96 (some ⟨c4, 0, none⟩) 1 ([([] : List S96)] : List (List S96)) :: Ass.own 3 (Kd.int .i64) (some ⟨y8, 0, none⟩) 1 a9 :: Ass.box 91 a1 [.slice b2 b1.length b3, .slice a7 a6.length a8] :: Ass.deep 94 96 kS96 b2 b3 b1 :: Ass.own 3 (Kd.int .i64) a7 a8 a6 :: os) (St.fold (B := B) (os := _) (rs := _) (et := 94) (et' := 96) (K := kS96) (hs := [(none, ([] : List S96).length, 0)]) (xs := ([([] : List S96)] : List (List S96))) ⟨rfl, trivial⟩ (St.re hS [1, 2] [] rfl sub_self)) rfl
       refine ED.one 7 7 #[true, true, true, true, true, true, true, true, true, true, true, true, true, true, true, true, false, false, false, false, false, false, false] (by kernel_rfl) (by kernel_rfl) (by kernel_rfl) (EO.appendDeep hS 89 89 24 3 0 kS96 b2 b3 b1 rfl (some ⟨c4, 0, none⟩) 1 ([([] : List S96)] : List (List S96)) rfl a2 b9 (fun e6 j2 => Ass.deep 94 96 kS96 e6 j2 a2 :: Ass.own 3 (Kd.int .i64) (some ⟨y8, 0, none⟩) 1 a9 :: Ass.box 91 a1 [.slice b2 b1.length b3, .slice a7 a6.length a8] :: Ass.own 3 (Kd.int .i64) a7 a8 a6 :: os) 25 (by kernel_rfl) (by kernel_rfl) (by kernel_rfl) (by kernel_rfl) b8 (fun _ _ => rfl) ?_)
       intro e6 j2 w hS
       have hC : Core B [] [Ro.sl (Kd.int .i64) (some a4) a3 a0, Ro.sl (Kd.int .i64) A12 C13 l11] _ := ⟨_, _, hS⟩
       refine ⟨hC, ?_⟩
       refine ED.one 16 6 #[true, true, true, true, true, true, true, true, true, true, true, true, true, true, true, true, true, false, false, false, false, false, false] (by kernel_rfl) (by kernel_rfl) (by kernel_rfl) (EO.append hS 66 66 3 8 3 (Kd.int .i64) a7 a8 a6 rfl (some ⟨y8, 0, none⟩) 1 a9 (Rd.own 1 3 rfl) a5 b7 (fun p2 v2 => Ass.deep 94 96 kS96 e6 j2 a2 :: Ass.own 3 (Kd.int .i64) (some ⟨y8, 0, none⟩) 1 a9 :: Ass.box 91 a1 [.slice b2 b1.length b3, .slice a7 a6.length a8] :: Ass.own 3 (Kd.int .i64) p2 v2 a5 :: os) 34 (by kernel_rfl) (by kernel_rfl) (by kernel_rfl) (by kernel_rfl) b6 (fun _ _ => rfl) ?_)
       intro p2 v2 w hS
       have hC : Core B [] [Ro.sl (Kd.int .i64) (some a4) a3 a0, Ro.sl (Kd.int .i64) A12 C13 l11] _ := ⟨_, _, hS⟩
       refine ⟨hC, ?_⟩
       refine ED.quick hN hF hC [17, 18] [3, 12, 13, 14, 19, 25, 34, 36] 4 [(3, .pointer (some ⟨a1, 0, none⟩)), (12, .slice (some a4) a0.length a3), (13, .int .i64 (a0.length : Int)), (14, .int .i64 b0), (19, .pointer (some ⟨a1, 0, none⟩)), (25, .slice e6 a2.length j2), (34, .slice p2 a5.length v2), (36, .pointer (some ⟨a1, 0, none⟩))] #[true, true, true, true, true, true, true, true, true, true, true, true, true, true, true, true, true, true, true, false, false, false, false] (by kernel_rfl) (by kernel_rfl) ?_
       refine ED.one 19 3 #[true, true, true, true, true, true, true, true, true, true, true, true, true, true, true, true, true, true, true, true, false, false, false] (by kernel_rfl) (by kernel_rfl) (by kernel_rfl) (EO.storeBox (os' := Ass.deep 94 96 kS96 e6 j2 a2 :: Ass.own 3 (Kd.int .i64) (some ⟨y8, 0, none⟩) 1 a9 :: Ass.box 91 a1 [.slice e6 a2.length j2, .slice a7 a6.length a8] :: Ass.own 3 (Kd.int .i64) p2 v2 a5 :: os) hS 2 rfl 89 0 (.slice e6 a2.length j2) [.slice e6 a2.length j2, .slice a7 a6.length a8] (by kernel_rfl) (by kernel_rfl) (by kernel_rfl) (by kernel_rfl) (by kernel_rfl) (by kernel_rfl) rfl rfl ?_)
       intro w hS
       have hC : Core B [] [Ro.sl (Kd.int .i64) (some a4) a3 a0, Ro.sl (Kd.int .i64) A12 C13 l11] _ := ⟨_, _, hS⟩
       refine ⟨hC, ?_⟩
       refine ED.quick hN hF hC [20, 21] [3, 12, 13, 14, 34, 38] 1 [(3, .pointer (some ⟨a1, 0, none⟩)), (12, .slice (some a4) a0.length a3), (13, .int .i64 (a0.length : Int)), (14, .int .i64 b0), (34, .slice p2 a5.length v2), (38, .pointer (some ⟨a1, 1, none⟩))] #[true, true, true, true, true, true, true, true, true, true, true, true, true, true, true, true, true, true, true, true, true, true, false] (by kernel_rfl) (by kernel_rfl) ?_
       refine ED.one 22 0 #[true, true, true, true, true, true, true, true, true, true, true, true, true, true, true, true, true, true, true, true, true, true, true] (by kernel_rfl) (by kernel_rfl) (by kernel_rfl) (EO.storeBox (os' := Ass.deep 94 96 kS96 e6 j2 a2 :: Ass.own 3 (Kd.int .i64) (some ⟨y8, 0, none⟩) 1 a9 :: Ass.box 91 a1 [.slice e6 a2.length j2, .slice p2 a5.length v2] :: Ass.own 3 (Kd.int .i64) p2 v2 a5 :: os) hS 2 rfl 66 1 (.slice p2 a5.length v2) [.slice e6 a2.length j2, .slice p2 a5.length v2] (by kernel_rfl) (by kernel_rfl) (by kernel_rfl) (by kernel_rfl) (by kernel_rfl) (by kernel_rfl) rfl rfl ?_)
       intro w hS
       have hC : Core B [] [Ro.sl (Kd.int .i64) (some a4) a3 a0, Ro.sl (Kd.int .i64) A12 C13 l11] _ := ⟨_, _, hS⟩
       refine ⟨hC, ?_⟩
       refine ED.done (by kernel_rfl) ?_
       refine EQ.to ?_
       refine EQ.keep [3, 12, 13, 14] [(3, .pointer (some ⟨a1, 0, none⟩)), (12, .slice (some a4) a0.length a3), (13, .int .i64 (a0.length : Int)), (14, .int .i64 b0)] (by kernel_rfl) ?_
       exact fun a ha => ⟨(some ⟨y8, 0, none⟩), 1, e6, j2, p2, v2, ha, (hS.re [3, 3, 2, 3] [] rfl (sub_cons 0 rfl (sub_cons 1 rfl (sub_tail (sub_tail (sub_self))))))⟩
     ·refine EO.lit hS (Kd.int .i64) 3 66 1 #[(0, .int .i64 (mn (mx (a0.getD b0.toNat 0) 0) 4096))] [.int .i64 (mn (mx (a0.getD b0.toNat 0) 0) 4096)] a9 33 (by kernel_rfl) (by kernel_rfl) (by kernel_rfl) (fun _ => (by kernel_rfl)) (by rw [b5]; rfl) (by kernel_rfl) (fun w G hr => (by rw [b5]; exact ⟨[.int .i64 (mn (mx (a0.getD b0.toNat 0) 0) 4096)], [], rfl, rfl, rfl⟩)) ?_
      intro c6 w hS
      have hC : Core B [] [Ro.sl (Kd.int .i64) (some a4) a3 a0, Ro.sl (Kd.int .i64) A12 C13 l11] _ := ⟨_, _, hS⟩
      refine ⟨hC, ?_⟩
      refine ED.at' #[true, true, true, true, true, false, true, false, true, true, true, false, true, true, true, true, false, false, false, false, false, false, false] (by kernel_rfl) ?_
      refine ED.two 5 11 9 (by kernel_rfl) (by kernel_rfl) ?_ ?_
      ·refine EO.Y (YO.loadBox hS 3 rfl 89 0 1 (.slice b2 b1.length b3) 23 (by kernel_rfl) (by kernel_rfl) (by kernel_rfl) (by kernel_rfl)) ?_
       have hC : Core B [] [Ro.sl (Kd.int .i64) (some a4) a3 a0, Ro.sl (Kd.int .i64) A12 C13 l11] _ := ⟨_, _, hS⟩
       refine ⟨hC, ?_⟩
       refine ED.at' #[true, true, true, true, true, true, true, false, true, true, true, false, true, true, true, true, false, false, false, false, false, false, false] (by kernel_rfl) ?_
       refine ED.two 7 11 8 (by kernel_rfl) (by kernel_rfl) ?_ ?_
       ·have hS := St.as (os' := Ass.deep 94 96 kS96 (some ⟨c4, 0, none⟩) 1 ([([] : List S96)] : List (List S96)) :: Ass.own 3 (Kd.int .i64) (some ⟨c6, 0, none⟩) 1 a9 :: Ass.box 91 a1 [.slice b2 b1.length b3, .slice a7 a6.length a8] :: Ass.deep 94 96 kS96 b2 b3 b1 :: Ass.own 3 (Kd.int .i64) a7 a8 a6 :: os) (St.fold (B := B) (os := _) (rs := _) (et := 94) (et' := 96) (K := kS96) (hs := [(none, ([] : List S96).length, 0)]) (xs := ([([] : List S96)] : List (List S96))) ⟨rfl, trivial⟩ (St.re hS [1, 2] [] rfl sub_self)) rfl
        refine EO.appendDeep hS 89 89 24 3 0 kS96 b2 b3 b1 rfl (some ⟨c4, 0, none⟩) 1 ([([] : List S96)] : List (List S96)) rfl a2 b9 (fun e7 j3 => Ass.deep 94 96 kS96 e7 j3 a2 :: Ass.own 3 (Kd.int .i64) (some ⟨c6, 0, none⟩) 1 a9 :: Ass.box 91 a1 [.slice b2 b1.length b3, .slice a7 a6.length a8] :: Ass.own 3 (Kd.int .i64) a7 a8 a6 :: os) 25 (by kernel_rfl) (by kernel_rfl) (by kernel_rfl) (by kernel_rfl) b8 (fun _ _ => rfl) ?_
        intro e7 j3 w hS
        have hC : Core B [] [Ro.sl (Kd.int .i64) (some a4) a3 a0, Ro.sl (Kd.int .i64) A12 C13 l11] _ := ⟨_, _, hS⟩
        refine ⟨hC, ?_⟩
        refine ED.at' #[true, true, true, true, true, true, true, true, true, true, true, false, true, true, true, true, false, false, false, false, false, false, false] (by kernel_rfl) ?_
        refine ED.one 11 7 #[true, true, true, true, true, true, true, true, true, true, true, true, true, true, true, true, false, false, false, false, false, false, false] (by kernel_rfl) (by kernel_rfl) (by kernel_rfl) (EO.Y (YO.loadBox hS 2 rfl 66 1 1 (.slice a7 a6.length a8) 29 (by kernel_rfl) (by kernel_rfl) (by kernel_rfl) (by kernel_rfl)) ?_)
        have hC : Core B [] [Ro.sl (Kd.int .i64) (some a4) a3 a0, Ro.sl (Kd.int .i64) A12 C13 l11] _ := ⟨_, _, hS⟩
        refine ⟨hC, ?_⟩
        refine ED.one 16 6 #[true, true, true, true, true, true, true, true, true, true, true, true, true, true, true, true, true, false, false, false, false, false, false] (by kernel_rfl) (by kernel_rfl) (by kernel_rfl) (EO.append hS 66 66 3 8 3 (Kd.int .i64) a7 a8 a6 rfl (some ⟨c6, 0, none⟩) 1 a9 (Rd.own 1 3 rfl) a5 b7 (fun p3 v3 => Ass.deep 94 96 kS96 e7 j3 a2 :: Ass.own 3 (Kd.int .i64) (some ⟨c6, 0, none⟩) 1 a9 :: Ass.box 91 a1 [.slice b2 b1.length b3, .slice a7 a6.length a8] :: Ass.own 3 (Kd.int .i64) p3 v3 a5 :: os) 34 (by kernel_rfl) (by kernel_rfl) (by kernel_rfl) (by kernel_rfl) b6 (fun _ _ => rfl) ?_)
        intro p3 v3 w hS
        have hC : Core B [] [Ro.sl (Kd.int .i64) (some a4) a3 a0, Ro.sl (Kd.int .i64) A12 C13 l11] _ := ⟨_, _, hS⟩
        refine ⟨hC, ?_⟩
        refine ED.quick hN hF hC [17, 18] [3, 12, 13, 14, 19, 25, 34, 36] 4 [(3, .pointer (some ⟨a1, 0, none⟩)), (12, .slice (some a4) a0.length a3), (13, .int .i64 (a0.length : Int)), (14, .int .i64 b0), (19, .pointer (some ⟨a1, 0, none⟩)), (25, .slice e7 a2.length j3), (34, .slice p3 a5.length v3), (36, .pointer (some ⟨a1, 0, none⟩))] #[true, true, true, true, true, true, true, true, true, true, true, true, true, true, true, true, true, true, true, false, false, false, false] (by kernel_rfl) (by kernel_rfl) ?_
        refine ED.one 19 3 #[true, true, true, true, true, true, true, true, true, true, true, true, true, true, true, true, true, true, true, true, false, false, false] (by kernel_rfl) (by kernel_rfl) (by kernel_rfl) (EO.storeBox (os' := Ass.deep 94 96 kS96 e7 j3 a2 :: Ass.own 3 (Kd.int .i64) (some ⟨c6, 0, none⟩) 1 a9 :: Ass.box 91 a1 [.slice e7 a2.length j3, .slice a7 a6.length a8] :: Ass.own 3 (Kd.int .i64) p3 v3 a5 :: os) hS 2 rfl 89 0 (.slice e7 a2.length j3) [.slice e7 a2.length j3, .slice a7 a6.length a8] (by kernel_rfl) (by kernel_rfl) (by kernel_rfl) (by kernel_rfl) (by kernel_rfl) (by kernel_rfl) rfl rfl ?_)
        intro w hS
        have hC : Core B [] [Ro.sl (Kd.int .i64) (some a4) a3 a0, Ro.sl (Kd.int .i64) A12 C13 l11] _ := ⟨_, _, hS⟩
        refine ⟨hC, ?_⟩
        refine ED.quick hN hF hC [20, 21] [3, 12, 13, 14, 34, 38] 1 [(3, .pointer (some ⟨a1, 0, none⟩)), (12, .slice (some a4) a0.length a3), (13, .int .i64 (a0.length : Int)), (14, .int .i64 b0), (34, .slice p3 a5.length v3), (38, .pointer (some ⟨a1, 1, none⟩))] #[true, true, true, true, true, true, true, true, true, true, true, true, true, true, true, true, true, true, true, true, true, true, false] (by kernel_rfl) (by kernel_rfl) ?_
        refine ED.one 22 0 #[true, true, true, true, true, true, true, true, true, true, true, true, true, true, true, true, true, true, true, true, true, true, true] (by kernel_rfl) (by kernel_rfl) (by kernel_rfl) (EO.storeBox (os' := Ass.deep 94 96 kS96 e7 j3 a2 :: Ass.own 3 (Kd.int .i64) (some ⟨c6, 0, none⟩) 1 a9 :: Ass.box 91 a1 [.slice e7 a2.length j3, .slice p3 a5.length v3] :: Ass.own 3 (Kd.int .i64) p3 v3 a5 :: os) hS 2 rfl 66 1 (.slice p3 a5.length v3) [.slice e7 a2.length j3, .slice p3 a5.length v3] (by kernel_rfl) (by kernel_rfl) (by kernel_rfl) (by kernel_rfl) (by kernel_rfl) (by kernel_rfl) rfl rfl ?_)
        intro w hS
        have hC : Core B [] [Ro.sl (Kd.int .i64) (some a4) a3 a0, Ro.sl (Kd.int .i64) A12 C13 l11] _ := ⟨_, _, hS⟩
        refine ⟨hC, ?_⟩
        refine ED.done (by kernel_rfl) ?_
        refine EQ.to ?_
        refine EQ.keep [3, 12, 13, 14] [(3, .pointer (some ⟨a1, 0, none⟩)), (12, .slice (some a4) a0.length a3), (13, .int .i64 (a0.length : Int)), (14, .int .i64 b0)] (by kernel_rfl) ?_
        exact fun a ha => ⟨(some ⟨c6, 0, none⟩), 1, e7, j3, p3, v3, ha, (hS.re [3, 3, 2, 3] [] rfl (sub_cons 0 rfl (sub_cons 1 rfl (sub_tail (sub_tail (sub_self))))))⟩
       ·refine EO.Y (YO.loadBox hS 3 rfl 66 1 1 (.slice a7 a6.length a8) 29 (by kernel_rfl) (by kernel_rfl) (by kernel_rfl) (by kernel_rfl)) ?_
        have hC : Core B [] [Ro.sl (Kd.int .i64) (some a4) a3 a0, Ro.sl (Kd.int .i64) A12 C13 l11] _ := ⟨_, _, hS⟩
        refine ⟨hC, ?_⟩
        refine ED.at' #[true, true, true, true, true, true, true, false, true, true, true, true, true, true, true, true, false, false, false, false, false, false, false] (by kernel_rfl) ?_
        have hS := St.as (os' := Ass.deep 94 96 kS96 (some ⟨c4, 0, none⟩) 1 ([([] : List S96)] : List (List S96)) :: Ass.own 3 (Kd.int .i64) (some ⟨c6, 0, none⟩) 1 a9 :: Ass.box 91 a1 [.slice b2 b1.length b3, .slice a7 a6.length a8] :: Ass.deep 94 96 kS96 b2 b3 b1 :: Ass.own 3 (Kd.int .i64) a7 a8 a6 :: os) (St.fold (B := B) (os := _) (rs := _) (et := 94) (et' := 96) (K := kS96) (hs := [(none, ([] : List S96).length, 0)]) (xs := ([([] : List S96)] : List (List S96))) ⟨rfl, trivial⟩ (St.re hS [1, 2] [] rfl sub_self)) rfl
        refine ED.one 7 7 #[true, true, true, true, true, true, true, true, true, true, true, true, true, true, true, true, false, false, false, false, false, false, false] (by kernel_rfl) (by kernel_rfl) (by kernel_rfl) (EO.appendDeep hS 89 89 24 3 0 kS96 b2 b3 b1 rfl (some ⟨c4, 0, none⟩) 1 ([([] : List S96)] : List (List S96)) rfl a2 b9 (fun e8 j4 => Ass.deep 94 96 kS96 e8 j4 a2 :: Ass.own 3 (Kd.int .i64) (some ⟨c6, 0, none⟩) 1 a9 :: Ass.box 91 a1 [.slice b2 b1.length b3, .slice a7 a6.length a8] :: Ass.own 3 (Kd.int .i64) a7 a8 a6 :: os) 25 (by kernel_rfl) (by kernel_rfl) (by kernel_rfl) (by kernel_rfl) b8 (fun _ _ => rfl) ?_)
        intro e8 j4 w hS
        have hC : Core B [] [Ro.sl (Kd.int .i64) (some a4) a3 a0, Ro.sl (Kd.int .i64) A12 C13 l11] _ := ⟨_, _, hS⟩
        refine ⟨hC, ?_⟩
        refine ED.one 16 6 #[true, true, true, true, true, true, true, true, true, true, true, true, true, true, true, true, true, false, false, false, false, false, false] (by kernel_rfl) (by kernel_rfl) (by kernel_rfl) (EO.append hS 66 66 3 8 3 (Kd.int .i64) a7 a8 a6 rfl (some ⟨c6, 0, none⟩) 1 a9 (Rd.own 1 3 rfl) a5 b7 (fun p4 v4 => Ass.deep 94 96 kS96 e8 j4 a2 :: Ass.own 3 (Kd.int .i64) (some ⟨c6, 0, none⟩) 1 a9 :: Ass.box 91 a1 [.slice b2 b1.length b3, .slice a7 a6.length a8] :: Ass.own 3 (Kd.int .i64) p4 v4 a5 :: os) 34 (by kernel_rfl) (by kernel_rfl) (by kernel_rfl) (by kernel_rfl) b6 (fun _ _ => rfl) ?_)
        intro p4 v4 w hS
        have hC : Core B [] [Ro.sl (Kd.int .i64) (some a4) a3 a0, Ro.sl (Kd.int .i64) A12 C13 l11] _ := ⟨_, _, hS⟩
        refine ⟨hC, ?_⟩
        refine ED.quick hN hF hC [17, 18] [3, 12, 13, 14, 19, 25, 34, 36] 4 [(3, .pointer (some ⟨a1, 0, none⟩)), (12, .slice (some a4) a0.length a3), (13, .int .i64 (a0.length : Int)), (14, .int .i64 b0), (19, .pointer (some ⟨a1, 0, none⟩)), (25, .slice e8 a2.length j4), (34, .slice p4 a5.length v4), (36, .pointer (some ⟨a1, 0, none⟩))] #[true, true, true, true, true, true, true, true, true, true, true, true, true, true, true, true, true, true, true, false, false, false, false] (by kernel_rfl) (by kernel_rfl) ?_
        refine ED.one 19 3 #[true, true, true, true, true, true, true, true, true, true, true, true, true, true, true, true, true, true, true, true, false, false, false] (by kernel_rfl) (by kernel_rfl) (by kernel_rfl) (EO.storeBox (os' := Ass.deep 94 96 kS96 e8 j4 a2 :: Ass.own 3 (Kd.int .i64) (some ⟨c6, 0, none⟩) 1 a9 :: Ass.box 91 a1 [.slice e8 a2.length j4, .slice a7 a6.length a8] :: Ass.own 3 (Kd.int .i64) p4 v4 a5 :: os) hS 2 rfl 89 0 (.slice e8 a2.length j4) [.slice e8 a2.length j4, .slice a7 a6.length a8] (by kernel_rfl) (by kernel_rfl) (by kernel_rfl) (by kernel_rfl) (by kernel_rfl) (by kernel_rfl) rfl rfl ?_)
        intro w hS
        have hC : Core B [] [Ro.sl (Kd.int .i64) (some a4) a3 a0, Ro.sl (Kd.int .i64) A12 C13 l11] _ := ⟨_, _, hS⟩
        refine ⟨hC, ?_⟩
        refine ED.quick hN hF hC [20, 21] [3, 12, 13, 14, 34, 38] 1 [(3, .pointer (some ⟨a1, 0, none⟩)), (12, .slice (some a4) a0.length a3), (13, .int .i64 (a0.length : Int)), (14, .int .i64 b0), (34, .slice p4 a5.length v4), (38, .pointer (some ⟨a1, 1, none⟩))] #[true, true, true, true, true, true, true, true, true, true, true, true, true, true, true, true, true, true, true, true, true, true, false] (by kernel_rfl) (by kernel_rfl) ?_
        refine ED.one 22 0 #[true, true, true, true, true, true, true, true, true, true, true, true, true, true, true, true, true, true, true, true, true, true, true] (by kernel_rfl) (by kernel_rfl) (by kernel_rfl) (EO.storeBox (os' := Ass.deep 94 96 kS96 e8 j4 a2 :: Ass.own 3 (Kd.int .i64) (some ⟨c6, 0, none⟩) 1 a9 :: Ass.box 91 a1 [.slice e8 a2.length j4, .slice p4 a5.length v4] :: Ass.own 3 (Kd.int .i64) p4 v4 a5 :: os) hS 2 rfl 66 1 (.slice p4 a5.length v4) [.slice e8 a2.length j4, .slice p4 a5.length v4] (by kernel_rfl) (by kernel_rfl) (by kernel_rfl) (by kernel_rfl) (by kernel_rfl) (by kernel_rfl) rfl rfl ?_)
        intro w hS
        have hC : Core B [] [Ro.sl (Kd.int .i64) (some a4) a3 a0, Ro.sl (Kd.int .i64) A12 C13 l11] _ := ⟨_, _, hS⟩
        refine ⟨hC, ?_⟩
        refine ED.done (by kernel_rfl) ?_
        refine EQ.to ?_
        refine EQ.keep [3, 12, 13, 14] [(3, .pointer (some ⟨a1, 0, none⟩)), (12, .slice (some a4) a0.length a3), (13, .int .i64 (a0.length : Int)), (14, .int .i64 b0)] (by kernel_rfl) ?_
        exact fun a ha => ⟨(some ⟨c6, 0, none⟩), 1, e8, j4, p4, v4, ha, (hS.re [3, 3, 2, 3] [] rfl (sub_cons 0 rfl (sub_cons 1 rfl (sub_tail (sub_tail (sub_self))))))⟩
      ·refine EO.Y (YO.loadBox hS 3 rfl 66 1 1 (.slice a7 a6.length a8) 29 (by kernel_rfl) (by kernel_rfl) (by kernel_rfl) (by kernel_rfl)) ?_
       have hC : Core B [] [Ro.sl (Kd.int .i64) (some a4) a3 a0, Ro.sl (Kd.int .i64) A12 C13 l11] _ := ⟨_, _, hS⟩
       refine ⟨hC, ?_⟩
       refine ED.at' #[true, true, true, true, true, false, true, false, true, true, true, true, true, true, true, true, false, false, false, false, false, false, false] (by kernel_rfl) ?_
       refine ED.one 5 8 #[true, true, true, true, true, true, true, false, true, true, true, true, true, true, true, true, false, false, false, false, false, false, false] (by kernel_rfl) (by kernel_rfl) (by kernel_rfl) (EO.Y (YO.loadBox hS 3 rfl 89 0 1 (.slice b2 b1.length b3) 23 (by kernel_rfl) (by kernel_rfl) (by kernel_rfl) (by kernel_rfl)) ?_)
       have hC : Core B [] [Ro.sl (Kd.int .i64) (some a4) a3 a0, Ro.sl (Kd.int .i64) A12 C13 l11] _ := ⟨_, _, hS⟩
       refine ⟨hC, ?_⟩
       have hS := St.as (os' := Ass.deep 94 96 kS96 (some ⟨c4, 0, none⟩) 1 ([([] : List S96)] : List (List S96)) :: Ass.own 3 (Kd.int .i64) (some ⟨c6, 0, none⟩) 1 a9 :: Ass.box 91 a1 [.slice b2 b1.length b3, .slice a7 a6.length a8] :: Ass.deep 94 96 kS96 b2 b3 b1 :: Ass.own 3 (Kd.int .i64) a7 a8 a6 :: os) (St.fold (B := B) (os := _) (rs := _) (et := 94) (et' := 96) (K := kS96) (hs := [(none, ([] : List S96).length, 0)]) (xs := ([([] : List S96)] : List (List S96))) ⟨rfl, trivial⟩ (St.re hS [1, 2] [] rfl sub_self)) rfl
       refine ED.one 7 7 #[true, true, true, true, true, true, true, true, true, true, true, true, true, true, true, true, false, false, false, false, false, false, false] (by kernel_rfl) (by kernel_rfl) (by kernel_rfl) (EO.appendDeep hS 89 89 24 3 0 kS96 b2 b3 b1 rfl (some ⟨c4, 0, none⟩) 1 ([([] : List S96)] : List (List S96)) rfl a2 b9 (fun e9 j5 => Ass.deep 94 96 kS96 e9 j5 a2 :: Ass.own 3 (Kd.int .i64) (some ⟨c6, 0, none⟩) 1 a9 :: Ass.box 91 a1 [.slice b2 b1.length b3, .slice a7 a6.length a8] :: Ass.own 3 (Kd.int .i64) a7 a8 a6 :: os) 25 (by kernel_rfl) (by kernel_rfl) (by kernel_rfl) (by kernel_rfl) b8 (fun _ _ => rfl) ?_)
       intro e9 j5 w hS
       have hC : Core B [] [Ro.sl (Kd.int .i64) (some a4) a3 a0, Ro.sl (Kd.int .i64) A12 C13 l11] _ := ⟨_, _, hS⟩
       refine ⟨hC, ?_⟩
       refine ED.one 16 6 #[true, true, true, true, true, true, true, true, true, true, true, true, true, true, true, true, true, false, false, false, false, false, false] (by kernel_rfl) (by kernel_rfl) (by kernel_rfl) (EO.append hS 66 66 3 8 3 (Kd.int .i64) a7 a8 a6 rfl (some ⟨c6, 0, none⟩) 1 a9 (Rd.own 1 3 rfl) a5 b7 (fun p5 v5 => Ass.deep 94 96 kS96 e9 j5 a2 :: Ass.own 3 (Kd.int .i64) (some ⟨c6, 0, none⟩) 1 a9 :: Ass.box 91 a1 [.slice b2 b1.length b3, .slice a7 a6.length a8] :: Ass.own 3 (Kd.int .i64) p5 v5 a5 :: os) 34 (by kernel_rfl) (by kernel_rfl) (by kernel_rfl) (by kernel_rfl) b6 (fun _ _ => rfl) ?_)
       intro p5 v5 w hS
       have hC : Core B [] [Ro.sl (Kd.int .i64) (some a4) a3 a0, Ro.sl (Kd.int .i64) A12 C13 l11] _ := ⟨_, _, hS⟩
       refine ⟨hC, ?_⟩
       refine ED.quick hN hF hC [17, 18] [3, 12, 13, 14, 19, 25, 34, 36] 4 [(3, .pointer (some ⟨a1, 0, none⟩)), (12, .slice (some a4) a0.length a3), (13, .int .i64 (a0.length : Int)), (14, .int .i64 b0), (19, .pointer (some ⟨a1, 0, none⟩)), (25, .slice e9 a2.length j5), (34, .slice p5 a5.length v5), (36, .pointer (some ⟨a1, 0, none⟩))] #[true, true, true, true, true, true, true, true, true, true, true, true, true, true, true, true, true, true, true, false, false, false, false] (by kernel_rfl) (by kernel_rfl) ?_
       refine ED.one 19 3 #[true, true, true, true, true, true, true, true, true, true, true, true, true, true, true, true, true, true, true, true, false, false, false] (by kernel_rfl) (by kernel_rfl) (by kernel_rfl) (EO.storeBox (os' := Ass.deep 94 96 kS96 e9 j5 a2 :: Ass.own 3 (Kd.int .i64) (some ⟨c6, 0, none⟩) 1 a9 :: Ass.box 91 a1 [.slice e9 a2.length j5, .slice a7 a6.length a8] :: Ass.own 3 (Kd.int .i64) p5 v5 a5 :: os) hS 2 rfl 89 0 (.slice e9 a2.length j5) [.slice e9 a2.length j5, .slice a7 a6.length a8] (by kernel_rfl) (by kernel_rfl) (by kernel_rfl) (by kernel_rfl) (by kernel_rfl) (by kernel_rfl) rfl rfl ?_)
       intro w hS
       have hC : Core B [] [Ro.sl (Kd.int .i64) (some a4) a3 a0, Ro.sl (Kd.int .i64) A12 C13 l11] _ := ⟨_, _, hS⟩
       refine ⟨hC, ?_⟩
       refine ED.quick hN hF hC [20, 21] [3, 12, 13, 14, 34, 38] 1 [(3, .pointer (some ⟨a1, 0, none⟩)), (12, .slice (some a4) a0.length a3), (13, .int .i64 (a0.length : Int)), (14, .int .i64 b0), (34, .slice p5 a5.length v5), (38, .pointer (some ⟨a1, 1, none⟩))] #[true, true, true, true, true, true, true, true, true, true, true, true, true, true, true, true, true, true, true, true, true, true, false] (by kernel_rfl) (by kernel_rfl) ?_
       refine ED.one 22 0 #[true, true, true, true, true, true, true, true, true, true, true, true, true, true, true, true, true, true, true, true, true, true, true] (by kernel_rfl) (by kernel_rfl) (by kernel_rfl) (EO.storeBox (os' := Ass.deep 94 96 kS96 e9 j5 a2 :: Ass.own 3 (Kd.int .i64) (some ⟨c6, 0, none⟩) 1 a9 :: Ass.box 91 a1 [.slice e9 a2.length j5, .slice p5 a5.length v5] :: Ass.own 3 (Kd.int .i64) p5 v5 a5 :: os) hS 2 rfl 66 1 (.slice p5 a5.length v5) [.slice e9 a2.length j5, .slice p5 a5.length v5] (by kernel_rfl) (by kernel_rfl) (by kernel_rfl) (by kernel_rfl) (by kernel_rfl) (by kernel_rfl) rfl rfl ?_)
       intro w hS
       have hC : Core B [] [Ro.sl (Kd.int .i64) (some a4) a3 a0, Ro.sl (Kd.int .i64) A12 C13 l11] _ := ⟨_, _, hS⟩
       refine ⟨hC, ?_⟩
       refine ED.done (by kernel_rfl) ?_
       refine EQ.to ?_
       refine EQ.keep [3, 12, 13, 14] [(3, .pointer (some ⟨a1, 0, none⟩)), (12, .slice (some a4) a0.length a3), (13, .int .i64 (a0.length : Int)), (14, .int .i64 b0)] (by kernel_rfl) ?_
       exact fun a ha => ⟨(some ⟨c6, 0, none⟩), 1, e9, j5, p5, v5, ha, (hS.re [3, 3, 2, 3] [] rfl (sub_cons 0 rfl (sub_cons 1 rfl (sub_tail (sub_tail (sub_self))))))⟩
    ·refine EO.Y (YO.loadBox hS 0 rfl 66 1 1 (.slice a7 a6.length a8) 29 (by kernel_rfl) (by kernel_rfl) (by kernel_rfl) (by kernel_rfl)) ?_
     have hC : Core B [] [Ro.sl (Kd.int .i64) (some a4) a3 a0, Ro.sl (Kd.int .i64) A12 C13 l11] _ := ⟨_, _, hS⟩
     refine ⟨hC, ?_⟩
     refine ED.at' #[true, true, true, true, true, false, false, false, true, true, true, true, true, true, true, false, false, false, false, false, false, false, false] (by kernel_rfl) ?_
     refine ED.many 5 [6, 15] 10 (by kernel_rfl) (by kernel_rfl) (Each.cons ?_ (Each.cons ?_ (Each.cons ?_ Each.nil)))
     ·refine EO.Y (YO.loadBox hS 0 rfl 89 0 1 (.slice b2 b1.length b3) 23 (by kernel_rfl) (by kernel_rfl) (by kernel_rfl) (by kernel_rfl)) ?_
      have hC : Core B [] [Ro.sl (Kd.int .i64) (some a4) a3 a0, Ro.sl (Kd.int .i64) A12 C13 l11] _ := ⟨_, _, hS⟩
      refine ⟨hC, ?_⟩
      refine ED.at' #[true, true, true, true, true, true, false, false, true, true, true, true, true, true, true, false, false, false, false, false, false, false, false] (by kernel_rfl) ?_
      refine ED.two 6 15 9 (by kernel_rfl) (by kernel_rfl) ?_ ?_
      ·refine EO.lit (xs := ([(none, ([] : List S96).length, 0)] : List Hdr)) hS Kd.hdr 94 89 1 #[(0, .slice none ([] : List S96).length 0)] [.slice none ([] : List S96).length 0] 24 (by kernel_rfl) (by kernel_rfl) (by kernel_rfl) (fun _ => (by kernel_rfl)) rfl (by kernel_rfl) (fun w G hr => ⟨[.slice none ([] : List S96).length 0], [], rfl, rfl, rfl⟩) ?_
       intro B3 w hS
       have hS := St.nilO hS 96 kS96
       have hC : Core B [] [Ro.sl (Kd.int .i64) (some a4) a3 a0, Ro.sl (Kd.int .i64) A12 C13 l11] _ := ⟨_, _, hS⟩
       refine ⟨hC, ?_⟩
       refine ED.at' #[true, true, true, true, true, true, true, false, true, true, true, true, true, true, true, false, false, false, false, false, false, false, false] (by kernel_rfl) ?_
       refine ED.two 7 15 8 (by kernel_rfl) (by kernel_rfl) ?_ ?_
       ·have hS := St.as (os' := Ass.deep 94 96 kS96 (some ⟨B3, 0, none⟩) 1 ([([] : List S96)] : List (List S96)) :: Ass.box 91 a1 [.slice b2 b1.length b3, .slice a7 a6.length a8] :: Ass.deep 94 96 kS96 b2 b3 b1 :: Ass.own 3 (Kd.int .i64) a7 a8 a6 :: os) (St.fold (B := B) (os := _) (rs := _) (et := 94) (et' := 96) (K := kS96) (hs := [(none, ([] : List S96).length, 0)]) (xs := ([([] : List S96)] : List (List S96))) ⟨rfl, trivial⟩ (St.re hS [0, 1] [] rfl sub_self)) rfl
        refine EO.appendDeep hS 89 89 24 2 0 kS96 b2 b3 b1 rfl (some ⟨B3, 0, none⟩) 1 ([([] : List S96)] : List (List S96)) rfl a2 b9 (fun f0 j6 => Ass.deep 94 96 kS96 f0 j6 a2 :: Ass.box 91 a1 [.slice b2 b1.length b3, .slice a7 a6.length a8] :: Ass.own 3 (Kd.int .i64) a7 a8 a6 :: os) 25 (by kernel_rfl) (by kernel_rfl) (by kernel_rfl) (by kernel_rfl) b8 (fun _ _ => rfl) ?_
        intro f0 j6 w hS
        have hC : Core B [] [Ro.sl (Kd.int .i64) (some a4) a3 a0, Ro.sl (Kd.int .i64) A12 C13 l11] _ := ⟨_, _, hS⟩
        refine ⟨hC, ?_⟩
        refine ED.at' #[true, true, true, true, true, true, true, true, true, true, true, true, true, true, true, false, false, false, false, false, false, false, false] (by kernel_rfl) ?_
        refine ED.one 15 7 #[true, true, true, true, true, true, true, true, true, true, true, true, true, true, true, true, false, false, false, false, false, false, false] (by kernel_rfl) (by kernel_rfl) (by kernel_rfl) (EO.lit hS (Kd.int .i64) 3 66 1 #[(0, .int .i64 (mn (mx (a0.getD b0.toNat 0) 0) 4096))] [.int .i64 (mn (mx (a0.getD b0.toNat 0) 0) 4096)] a9 33 (by kernel_rfl) (by kernel_rfl) (by kernel_rfl) (fun _ => (by kernel_rfl)) (by rw [b5]; rfl) (by kernel_rfl) (fun w G hr => (by rw [b5]; exact ⟨[.int .i64 (mn (mx (a0.getD b0.toNat 0) 0) 4096)], [], rfl, rfl, rfl⟩)) ?_)
        intro A5 w hS
        have hC : Core B [] [Ro.sl (Kd.int .i64) (some a4) a3 a0, Ro.sl (Kd.int .i64) A12 C13 l11] _ := ⟨_, _, hS⟩
        refine ⟨hC, ?_⟩
        refine ED.one 16 6 #[true, true, true, true, true, true, true, true, true, true, true, true, true, true, true, true, true, false, false, false, false, false, false] (by kernel_rfl) (by kernel_rfl) (by kernel_rfl) (EO.append hS 66 66 3 8 3 (Kd.int .i64) a7 a8 a6 rfl (some ⟨A5, 0, none⟩) 1 a9 (Rd.own 0 3 rfl) a5 b7 (fun p6 v6 => Ass.own 3 (Kd.int .i64) (some ⟨A5, 0, none⟩) 1 a9 :: Ass.deep 94 96 kS96 f0 j6 a2 :: Ass.box 91 a1 [.slice b2 b1.length b3, .slice a7 a6.length a8] :: Ass.own 3 (Kd.int .i64) p6 v6 a5 :: os) 34 (by kernel_rfl) (by kernel_rfl) (by kernel_rfl) (by kernel_rfl) b6 (fun _ _ => rfl) ?_)
        intro p6 v6 w hS
        have hC : Core B [] [Ro.sl (Kd.int .i64) (some a4) a3 a0, Ro.sl (Kd.int .i64) A12 C13 l11] _ := ⟨_, _, hS⟩
        refine ⟨hC, ?_⟩
        refine ED.quick hN hF hC [17, 18] [3, 12, 13, 14, 19, 25, 34, 36] 4 [(3, .pointer (some ⟨a1, 0, none⟩)), (12, .slice (some a4) a0.length a3), (13, .int .i64 (a0.length : Int)), (14, .int .i64 b0), (19, .pointer (some ⟨a1, 0, none⟩)), (25, .slice f0 a2.length j6), (34, .slice p6 a5.length v6), (36, .pointer (some ⟨a1, 0, none⟩))] #[true, true, true, true, true, true, true, true, true, true, true, true, true, true, true, true, true, true, true, false, false, false, false] (by kernel_rfl) (by kernel_rfl) ?_
        refine ED.one 19 3 #[true, true, true, true, true, true, true, true, true, true, true, true, true, true, true, true, true, true, true, true, false, false, false] (by kernel_rfl) (by kernel_rfl) (by kernel_rfl) (EO.storeBox (os' := Ass.own 3 (Kd.int .i64) (some ⟨A5, 0, none⟩) 1 a9 :: Ass.deep 94 96 kS96 f0 j6 a2 :: Ass.box 91 a1 [.slice f0 a2.length j6, .slice a7 a6.length a8] :: Ass.own 3 (Kd.int .i64) p6 v6 a5 :: os) hS 2 rfl 89 0 (.slice f0 a2.length j6) [.slice f0 a2.length j6, .slice a7 a6.length a8] (by kernel_rfl) (by kernel_rfl) (by kernel_rfl) (by kernel_rfl) (by kernel_rfl) (by kernel_rfl) rfl rfl ?_)
        intro w hS
        have hC : Core B [] [Ro.sl (Kd.int .i64) (some a4) a3 a0, Ro.sl (Kd.int .i64) A12 C13 l11] _ := ⟨_, _, hS⟩
        refine ⟨hC, ?_⟩
        refine ED.quick hN hF hC [20, 21] [3, 12, 13, 14, 34, 38] 1 [(3, .pointer (some ⟨a1, 0, none⟩)), (12, .slice (some a4) a0.length a3), (13, .int .i64 (a0.length : Int)), (14, .int .i64 b0), (34, .slice p6 a5.length v6), (38, .pointer (some ⟨a1, 1, none⟩))] #[true, true, true, true, true, true, true, true, true, true, true, true, true, true, true, true, true, true, true, true, true, true, false] (by kernel_rfl) (by kernel_rfl) ?_
        refine ED.one 22 0 #[true, true, true, true, true, true, true, true, true, true, true, true, true, true, true, true, true, true, true, true, true, true, true] (by kernel_rfl) (by kernel_rfl) (by kernel_rfl) (EO.storeBox (os' := Ass.own 3 (Kd.int .i64) (some ⟨A5, 0, none⟩) 1 a9 :: Ass.deep 94 96 kS96 f0 j6 a2 :: Ass.box 91 a1 [.slice f0 a2.length j6, .slice p6 a5.length v6] :: Ass.own 3 (Kd.int .i64) p6 v6 a5 :: os) hS 2 rfl 66 1 (.slice p6 a5.length v6) [.slice f0 a2.length j6, .slice p6 a5.length v6] (by kernel_rfl) (by kernel_rfl) (by kernel_rfl) (by kernel_rfl) (by kernel_rfl) (by kernel_rfl) rfl rfl ?_)
        intro w hS
        have hC : Core B [] [Ro.sl (Kd.int .i64) (some a4) a3 a0, Ro.sl (Kd.int .i64) A12 C13 l11] _ := ⟨_, _, hS⟩
        refine ⟨hC, ?_⟩
        refine ED.done (by kernel_rfl) ?_
        refine EQ.to ?_
        refine EQ.keep [3, 12, 13, 14] [(3, .pointer (some ⟨a1, 0, none⟩)), (12, .slice (some a4) a0.length a3), (13, .int .i64 (a0.length : Int)), (14, .int .i64 b0)] (by kernel_rfl) ?_
        exact fun a ha => ⟨(some ⟨A5, 0, none⟩), 1, f0, j6, p6, v6, ha, (hS.re [3, 3, 3, 3] [] rfl (sub_cons 0 rfl (sub_cons 1 rfl (sub_tail (sub_tail (sub_self))))))⟩
       ·refine EO.lit hS (Kd.int .i64) 3 66 1 #[(0, .int .i64 (mn (mx (a0.getD b0.toNat 0) 0) 4096))] [.int .i64 (mn (mx (a0.getD b0.toNat 0) 0) 4096)] a9 33 (by kernel_rfl) (by kernel_rfl) (by kernel_rfl) (fun _ => (by kernel_rfl)) (by rw [b5]; rfl) (by kernel_rfl) (fun w G hr => (by rw [b5]; exact ⟨[.int .i64 (mn (mx (a0.getD b0.toNat 0) 0) 4096)], [], rfl, rfl, rfl⟩)) ?_
        intro y9 w hS
        have hC : Core B [] [Ro.sl (Kd.int .i64) (some a4) a3 a0, Ro.sl (Kd.int .i64) A12 C13 l11] _ := ⟨_, _, hS⟩
        refine ⟨hC, ?_⟩
        refine ED.at' #[true, true, true, true, true, true, true, false, true, true, true, true, true, true, true, true, false, false, false, false, false, false, false] (by kernel_rfl) ?_
        have hS := St.as (os' := Ass.deep 94 96 kS96 (some ⟨B3, 0, none⟩) 1 ([([] : List S96)] : List (List S96)) :: Ass.own 3 (Kd.int .i64) (some ⟨y9, 0, none⟩) 1 a9 :: Ass.box 91 a1 [.slice b2 b1.length b3, .slice a7 a6.length a8] :: Ass.deep 94 96 kS96 b2 b3 b1 :: Ass.own 3 (Kd.int .i64) a7 a8 a6 :: os) (St.fold (B := B) (os := _) (rs := _) (et := 94) (et' := 96) (K := kS96) (hs := [(none, ([] : List S96).length, 0)]) (xs := ([([] : List S96)] : List (List S96))) ⟨rfl, trivial⟩ (St.re hS [1, 2] [] rfl sub_self)) rfl
        refine ED.one 7 7 #[true, true, true, true, true, true, true, true, true, true, true, true, true, true, true, true, false, false, false, false, false, false, false] (by kernel_rfl) (by kernel_rfl) (by kernel_rfl) (EO.appendDeep hS 89 89 24 3 0 kS96 b2 b3 b1 rfl (some ⟨B3, 0, none⟩) 1 ([([] : List S96)] : List (List S96)) rfl a2 b9 (fun f1 j7 => Ass.deep 94 96 kS96 f1 j7 a2 :: Ass.own 3 (Kd.int .i64) (some ⟨y9, 0, none⟩) 1 a9 :: Ass.box 91 a1 [.slice b2 b1.length b3, .slice a7 a6.length a8] :: Ass.own 3 (Kd.int .i64) a7 a8 a6 :: os) 25 (by kernel_rfl) (by kernel_rfl) (by kernel_rfl) (by kernel_rfl) b8 (fun _ _ => rfl) ?_)
        intro f1 j7 w hS
        have hC : Core B [] [Ro.sl (Kd.int .i64) (some a4) a3 a0, Ro.sl (Kd.int .i64) A12 C13 l11] _ := ⟨_, _, hS⟩
        refine ⟨hC, ?_⟩
        refine ED.one 16 6 #[true, true, true, true, true, true, true, true, true, true, true, true, true, true, true, true, true, false, false, false, false, false, false] (by kernel_rfl) (by kernel_rfl) (by kernel_rfl) (EO.append hS 66 66 3 8 3 (Kd.int .i64) a7 a8 a6 rfl (some ⟨y9, 0, none⟩) 1 a9 (Rd.own 1 3 rfl) a5 b7 (fun p7 v7 => Ass.deep 94 96 kS96 f1 j7 a2 :: Ass.own 3 (Kd.int .i64) (some ⟨y9, 0, none⟩) 1 a9 :: Ass.box 91 a1 [.slice b2 b1.length b3, .slice a7 a6.length a8] :: Ass.own 3 (Kd.int .i64) p7 v7 a5 :: os) 34 (by kernel_rfl) (by kernel_rfl) (by kernel_rfl) (by kernel_rfl) b6 (fun _ _ => rfl) ?_)
        intro p7 v7 w hS
        have hC : Core B [] [Ro.sl (Kd.int .i64) (some a4) a3 a0, Ro.sl (Kd.int .i64) A12 C13 l11] _ := ⟨_, _, hS⟩
        refine ⟨hC, ?_⟩
        refine ED.quick hN hF hC [17, 18] [3, 12, 13, 14, 19, 25, 34, 36] 4 [(3, .pointer (some ⟨a1, 0, none⟩)), (12, .slice (some a4) a0.length a3), (13, .int .i64 (a0.length : Int)), (14, .int .i64 b0), (19, .pointer (some ⟨a1, 0, none⟩)), (25, .slice f1 a2.length j7), (34, .slice p7 a5.length v7), (36, .pointer (some ⟨a1, 0, none⟩))] #[true, true, true, true, true, true, true, true, true, true, true, true, true, true, true, true, true, true, true, false, false, false, false] (by kernel_rfl) (by kernel_rfl) ?_
        refine ED.one 19 3 #[true, true, true, true, true, true, true, true, true, true, true, true, true, true, true, true, true, true, true, true, false, false, false] (by kernel_rfl) (by kernel_rfl) (by kernel_rfl) (EO.storeBox (os' := Ass.deep 94 96 kS96 f1 j7 a2 :: Ass.own 3 (Kd.int .i64) (some ⟨y9, 0, none⟩) 1 a9 :: Ass.box 91 a1 [.slice f1 a2.length j7, .slice a7 a6.length a8] :: Ass.own 3 (Kd.int .i64) p7 v7 a5 :: os) hS 2 rfl 89 0 (.slice f1 a2.length j7) [.slice f1 a2.length j7, .slice a7 a6.length a8] (by kernel_rfl) (by kernel_rfl) (by kernel_rfl) (by kernel_rfl) (by kernel_rfl) (by kernel_rfl) rfl rfl ?_)
        intro w hS
        have hC : Core B [] [Ro.sl (Kd.int .i64) (some a4) a3 a0, Ro.sl (Kd.int .i64) A12 C13 l11] _ := ⟨_, _, hS⟩
        refine ⟨hC, ?_⟩
        refine ED.quick hN hF hC [20, 21] [3, 12, 13, 14, 34, 38] 1 [(3, .pointer (some ⟨a1, 0, none⟩)), (12, .slice (some a4) a0.length a3), (13, .int .i64 (a0.length : Int)), (14, .int .i64 b0), (34, .slice p7 a5.length v7), (38, .pointer (some ⟨a1, 1, none⟩))] #[true, true, true, true, true, true, true, true, true, true, true, true, true, true, true, true, true, true, true, true, true, true, false] (by kernel_rfl) (by kernel_rfl) ?_
        refine ED.one 22 0 #[true, true, true, true, true, true, true, true, true, true, true, true, true, true, true, true, true, true, true, true, true, true, true] (by kernel_rfl) (by kernel_rfl) (by kernel_rfl) (EO.storeBox (os' := Ass.deep 94 96 kS96 f1 j7 a2 :: Ass.own 3 (Kd.int .i64) (some ⟨y9, 0, none⟩) 1 a9 :: Ass.box 91 a1 [.slice f1 a2.length j7, .slice p7 a5.length v7] :: Ass.own 3 (Kd.int .i64) p7 v7 a5 :: os) hS 2 rfl 66 1 (.slice p7 a5.length v7) [.slice f1 a2.length j7, .slice p7 a5.length v7] (by kernel_rfl) (by kernel_rfl) (by kernel_rfl) (by kernel_rfl) (by kernel_rfl) (by kernel_rfl) rfl rfl ?_)
        intro w hS
        have hC : Core B [] [Ro.sl (Kd.int .i64) (some a4) a3 a0, Ro.sl (Kd.int .i64) A12 C13 l11] _ := ⟨_, _, hS⟩
        refine ⟨hC, ?_⟩
        refine ED.done (by kernel_rfl) ?_
        refine EQ.to ?_
        refine EQ.keep [3, 12, 13, 14] [(3, .pointer (some ⟨a1, 0, none⟩)), (12, .slice (some a4) a0.length a3), (13, .int .i64 (a0.length : Int)), (14, .int .i64 b0)] (by kernel_rfl) ?_
        exact fun a ha => ⟨(some ⟨y9, 0, none⟩), 1, f1, j7, p7, v7, ha, (hS.re [3, 3, 2, 3] [] rfl (sub_cons 0 rfl (sub_cons 1 rfl (sub_tail (sub_tail (sub_self))))))⟩
      ·refine EO.lit hS (Kd.int .i64) 3 66 1 #[(0, .int .i64 (mn (mx (a0.getD b0.toNat 0) 0) 4096))] [.int .i64 (mn (mx (a0.getD b0.toNat 0) 0) 4096)] a9 33 (by kernel_rfl) (by kernel_rfl) (by kernel_rfl) (fun _ => (by kernel_rfl)) (by rw [b5]; rfl) (by kernel_rfl) (fun w G hr => (by rw [b5]; exact ⟨[.int .i64 (mn (mx (a0.getD b0.toNat 0) 0) 4096)], [], rfl, rfl, rfl⟩)) ?_
       intro z0 w hS
       have hC : Core B [] [Ro.sl (Kd.int .i64) (some a4) a3 a0, Ro.sl (Kd.int .i64) A12 C13 l11] _ := ⟨_, _, hS⟩
       refine ⟨hC, ?_⟩
       refine ED.at' #[true, true, true, true, true, true, false, false, true, true, true, true, true, true, true, true, false, false, false, false, false, false, false] (by kernel_rfl) ?_
       refine ED.one 6 8 #[true, true, true, true, true, true, true, false, true, true, true, true, true, true, true, true, false, false, false, false, false, false, false] (by kernel_rfl) (by kernel_rfl) (by kernel_rfl) (EO.lit (xs := ([(none, ([] : List S96).length, 0)] : List Hdr)) hS Kd.hdr 94 89 1 #[(0, .slice none ([] : List S96).length 0)] [.slice none ([] : List S96).length 0] 24 (by kernel_rfl) (by kernel_rfl) (by kernel_rfl) (fun _ => (by kernel_rfl)) rfl (by kernel_rfl) (fun w G hr => ⟨[.slice none ([] : List S96).length 0], [], rfl, rfl, rfl⟩) ?_)
       intro C7 w hS
       have hS := St.nilO hS 96 kS96
       have hC : Core B [] [Ro.sl (Kd.int .i64) (some a4) a3 a0, Ro.sl (Kd.int .i64) A12 C13 l11] _ := ⟨_, _, hS⟩
       refine ⟨hC, ?_⟩
       have hS := St.as (os' := Ass.deep 94 96 kS96 (some ⟨C7, 0, none⟩) 1 ([([] : List S96)] : List (List S96)) :: Ass.own 3 (Kd.int .i64) (some ⟨z0, 0, none⟩) 1 a9 :: Ass.box 91 a1 [.slice b2 b1.length b3, .slice a7 a6.length a8] :: Ass.deep 94 96 kS96 b2 b3 b1 :: Ass.own 3 (Kd.int .i64) a7 a8 a6 :: os) (St.fold (B := B) (os := _) (rs := _) (et := 94) (et' := 96) (K := kS96) (hs := [(none, ([] : List S96).length, 0)]) (xs := ([([] : List S96)] : List (List S96))) ⟨rfl, trivial⟩ (St.re hS [0, 1] [] rfl sub_self)) rfl
       refine ED.one 7 7 #[true, true, true, true, true, true, true, true, true, true, true, true, true, true, true, true, false, false, false, false, false, false, false] (by kernel_rfl) (by kernel_rfl) (by kernel_rfl) (EO.appendDeep hS 89 89 24 3 0 kS96 b2 b3 b1 rfl (some ⟨C7, 0, none⟩) 1 ([([] : List S96)] : List (List S96)) rfl a2 b9 (fun f2 j8 => Ass.deep 94 96 kS96 f2 j8 a2 :: Ass.own 3 (Kd.int .i64) (some ⟨z0, 0, none⟩) 1 a9 :: Ass.box 91 a1 [.slice b2 b1.length b3, .slice a7 a6.length a8] :: Ass.own 3 (Kd.int .i64) a7 a8 a6 :: os) 25 (by kernel_rfl) (by kernel_rfl) (by kernel_rfl) (by kernel_rfl) b8 (fun _ _ => rfl) ?_)
       intro f2 j8 w hS
       have hC : Core B [] [Ro.sl (Kd.int .i64) (some a4) a3 a0, Ro.sl (Kd.int .i64) A12 C13 l11] _ := ⟨_, _, hS⟩
       refine ⟨hC, ?_⟩
       refine ED.one 16 6 #[true, true, true, true, true, true, true, true, true, true, true, true, true, true, true, true, true, false, false, false, false, false, false] (by kernel_rfl) (by kernel_rfl) (by kernel_rfl) (EO.append hS 66 66 3 8 3 (Kd.int .i64) a7 a8 a6 rfl (some ⟨z0, 0, none⟩) 1 a9 (Rd.own 1 3 rfl) a5 b7 (fun p8 v8 => Ass.deep 94 96 kS96 f2 j8 a2 :: Ass.own 3 (Kd.int .i64) (some ⟨z0, 0, none⟩) 1 a9 :: Ass.box 91 a1 [.slice b2 b1.length b3, .slice a7 a6.length a8] :: Ass.own 3 (Kd.int .i64) p8 v8 a5 :: os) 34 (by kernel_rfl) (by kernel_rfl) (by kernel_rfl) (by kernel_rfl) b6 (fun _ _ => rfl) ?_)
       intro p8 v8 w hS
       have hC : Core B [] [Ro.sl (Kd.int .i64) (some a4) a3 a0, Ro.sl (Kd.int .i64) A12 C13 l11] _ := ⟨_, _, hS⟩
       refine ⟨hC, ?_⟩
       refine ED.quick hN hF hC [17, 18] [3, 12, 13, 14, 19, 25, 34, 36] 4 [(3, .pointer (some ⟨a1, 0, none⟩)), (12, .slice (some a4) a0.length a3), (13, .int .i64 (a0.length : Int)), (14, .int .i64 b0), (19, .pointer (some ⟨a1, 0, none⟩)), (25, .slice f2 a2.length j8), (34, .slice p8 a5.length v8), (36, .pointer (some ⟨a1, 0, none⟩))] #[true, true, true, true, true, true, true, true, true, true, true, true, true, true, true, true, true, true, true, false, false, false, false] (by kernel_rfl) (by kernel_rfl) ?_
       refine ED.one 19 3 #[true, true, true, true, true, true, true, true, true, true, true, true, true, true, true, true, true, true, true, true, false, false, false] (by kernel_rfl) (by kernel_rfl) (by kernel_rfl) (EO.storeBox (os' := Ass.deep 94 96 kS96 f2 j8 a2 :: Ass.own 3 (Kd.int .i64) (some ⟨z0, 0, none⟩) 1 a9 :: Ass.box 91 a1 [.slice f2 a2.length j8, .slice a7 a6.length a8] :: Ass.own 3 (Kd.int .i64) p8 v8 a5 :: os) hS 2 rfl 89 0 (.slice f2 a2.length j8) [.slice f2 a2.length j8, .slice a7 a6.length a8] (by kernel_rfl) (by kernel_rfl) (by kernel_rfl) (by kernel_rfl) (by kernel_rfl) (by kernel_rfl) rfl rfl ?_)
       intro w hS
       have hC : Core B [] [Ro.sl (Kd.int .i64) (some a4) a3 a0, Ro.sl (Kd.int .i64) A12 C13 l11] _ := ⟨_, _, hS⟩
       refine ⟨hC, ?_⟩
       refine ED.quick hN hF hC [20, 21] [3, 12, 13, 14, 34, 38] 1 [(3, .pointer (some ⟨a1, 0, none⟩)), (12, .slice (some a4) a0.length a3), (13, .int .i64 (a0.length : Int)), (14, .int .i64 b0), (34, .slice p8 a5.length v8), (38, .pointer (some ⟨a1, 1, none⟩))] #[true, true, true, true, true, true, true, true, true, true, true, true, true, true, true, true, true, true, true, true, true, true, false] (by kernel_rfl) (by kernel_rfl) ?_
       refine ED.one 22 0 #[true, true, true, true, true, true, true, true, true, true, true, true, true, true, true, true, true, true, true, true, true, true, true] (by kernel_rfl) (by kernel_rfl) (by kernel_rfl) (EO.storeBox (os' := Ass.deep 94 96 kS96 f2 j8 a2 :: Ass.own 3 (Kd.int .i64) (some ⟨z0, 0, none⟩) 1 a9 :: Ass.box 91 a1 [.slice f2 a2.length j8, .slice p8 a5.length v8] :: Ass.own 3 (Kd.int .i64) p8 v8 a5 :: os) hS 2 rfl 66 1 (.slice p8 a5.length v8) [.slice f2 a2.length j8, .slice p8 a5.length v8] (by kernel_rfl) (by kernel_rfl) (by kernel_rfl) (by kernel_rfl) (by kernel_rfl) (by kernel_rfl) rfl rfl ?_)
       intro w hS
       have hC : Core B [] [Ro.sl (Kd.int .i64) (some a4) a3 a0, Ro.sl (Kd.int .i64) A12 C13 l11] _ := ⟨_, _, hS⟩
       refine ⟨hC, ?_⟩
       refine ED.done (by kernel_rfl) ?_
       refine EQ.to ?_
       refine EQ.keep [3, 12, 13, 14] [(3, .pointer (some ⟨a1, 0, none⟩)), (12, .slice (some a4) a0.length a3), (13, .int .i64 (a0.length : Int)), (14, .int .i64 b0)] (by kernel_rfl) ?_
       exact fun a ha => ⟨(some ⟨z0, 0, none⟩), 1, f2, j8, p8, v8, ha, (hS.re [3, 3, 2, 3] [] rfl (sub_cons 0 rfl (sub_cons 1 rfl (sub_tail (sub_tail (sub_self))))))⟩
     ·refine EO.lit (xs := ([(none, ([] : List S96).length, 0)] : List Hdr)) hS Kd.hdr 94 89 1 #[(0, .slice none ([] : List S96).length 0)] [.slice none ([] : List S96).length 0] 24 (by kernel_rfl) (by kernel_rfl) (by kernel_rfl) (fun _ => (by kernel_rfl)) rfl (by kernel_rfl) (fun w G hr => ⟨[.slice none ([] : List S96).length 0], [], rfl, rfl, rfl⟩) ?_
      intro z3 w hS
      have hS := St.nilO hS 96 kS96
      have hC : Core B [] [Ro.sl (Kd.int .i64) (some a4) a3 a0, Ro.sl (Kd.int .i64) A12 C13 l11] _ := ⟨_, _, hS⟩
      refine ⟨hC, ?_⟩
      refine ED.at' #[true, true, true, true, true, false, true, false, true, true, true, true, true, true, true, false, false, false, false, false, false, false, false] (by kernel_rfl) ?_
      refine ED.two 5 15 9 (by kernel_rfl) (by kernel_rfl) ?_ ?_
      ·refine EO.Y (YO.loadBox hS 2 rfl 89 0 1 (.slice b2 b1.length b3) 23 (by kernel_rfl) (by kernel_rfl) (by kernel_rfl) (by kernel_rfl)) ?_
       have hC : Core B [] [Ro.sl (Kd.int .i64) (some a4) a3 a0, Ro.sl (Kd.int .i64) A12 C13 l11] _ := ⟨_, _, hS⟩
       refine ⟨hC, ?_⟩
       refine ED.at' #[true, true, true, true, true, true, true, false, true, true, true, true, true, true, true, false, false, false, false, false, false, false, false] (by kernel_rfl) ?_
       refine ED.two 7 15 8 (by kernel_rfl) (by kernel_rfl) ?_ ?_
       ·have hS := St.as (os' := Ass.deep 94 96 kS96 (some ⟨z3, 0, none⟩) 1 ([([] : List S96)] : List (List S96)) :: Ass.box 91 a1 [.slice b2 b1.length b3, .slice a7 a6.length a8] :: Ass.deep 94 96 kS96 b2 b3 b1 :: Ass.own 3 (Kd.int .i64) a7 a8 a6 :: os) (St.fold (B := B) (os := _) (rs := _) (et := 94) (et' := 96) (K := kS96) (hs := [(none, ([] : List S96).length, 0)]) (xs := ([([] : List S96)] : List (List S96))) ⟨rfl, trivial⟩ (St.re hS [0, 1] [] rfl sub_self)) rfl
        refine EO.appendDeep hS 89 89 24 2 0 kS96 b2 b3 b1 rfl (some ⟨z3, 0, none⟩) 1 ([([] : List S96)] : List (List S96)) rfl a2 b9 (fun f3 j9 => Ass.deep 94 96 kS96 f3 j9 a2 :: Ass.box 91 a1 [.slice b2 b1.length b3, .slice a7 a6.length a8] :: Ass.own 3 (Kd.int .i64) a7 a8 a6 :: os) 25 (by kernel_rfl) (by kernel_rfl) (by kernel_rfl) (by kernel_rfl) b8 (fun _ _ => rfl) ?_
        intro f3 j9 w hS
        have hC : Core B [] [Ro.sl (Kd.int .i64) (some a4) a3 a0, Ro.sl (Kd.int .i64) A12 C13 l11] _ := ⟨_, _, hS⟩
        refine ⟨hC, ?_⟩
        refine ED.at' #[true, true, true, true, true, true, true, true, true, true, true, true, true, true, true, false, false, false, false, false, false, false, false] (by kernel_rfl) ?_
        refine ED.one 15 7 #[true, true, true, true, true, true, true, true, true, true, true, true, true, true, true, true, false, false, false, false, false, false, false] (by kernel_rfl) (by kernel_rfl) (by kernel_rfl) (EO.lit hS (Kd.int .i64) 3 66 1 #[(0, .int .i64 (mn (mx (a0.getD b0.toNat 0) 0) 4096))] [.int .i64 (mn (mx (a0.getD b0.toNat 0) 0) 4096)] a9 33 (by kernel_rfl) (by kernel_rfl) (by kernel_rfl) (fun _ => (by kernel_rfl)) (by rw [b5]; rfl) (by kernel_rfl) (fun w G hr => (by rw [b5]; exact ⟨[.int .i64 (mn (mx (a0.getD b0.toNat 0) 0) 4096)], [], rfl, rfl, rfl⟩)) ?_)
        intro A6 w hS
        have hC : Core B [] [Ro.sl (Kd.int .i64) (some a4) a3 a0, Ro.sl (Kd.int .i64) A12 C13 l11] _ := ⟨_, _, hS⟩
        refine ⟨hC, ?_⟩
        refine ED.one 16 6 #[true, true, true, true, true, true, true, true, true, true, true, true, true, true, true, true, true, false, false, false, false, false, false] (by kernel_rfl) (by kernel_rfl) (by kernel_rfl) (EO.append hS 66 66 3 8 3 (Kd.int .i64) a7 a8 a6 rfl (some ⟨A6, 0, none⟩) 1 a9 (Rd.own 0 3 rfl) a5 b7 (fun p9 v9 => Ass.own 3 (Kd.int .i64) (some ⟨A6, 0, none⟩) 1 a9 :: Ass.deep 94 96 kS96 f3 j9 a2 :: Ass.box 91 a1 [.slice b2 b1.length b3, .slice a7 a6.length a8] :: Ass.own 3 (Kd.int .i64) p9 v9 a5 :: os) 34 (by kernel_rfl) (by kernel_rfl) (by kernel_rfl) (by kernel_rfl) b6 (fun _ _ => rfl) ?_)
        intro p9 v9 w hS
        have hC : Core B [] [Ro.sl (Kd.int .i64) (some a4) a3 a0, Ro.sl (Kd.int .i64) A12 C13 l11] _ := ⟨_, _, hS⟩
        refine ⟨hC, ?_⟩
        refine ED.quick hN hF hC [17, 18] [3, 12, 13, 14, 19, 25, 34, 36] 4 [(3, .pointer (some ⟨a1, 0, none⟩)), (12, .slice (some a4) a0.length a3), (13, .int .i64 (a0.length : Int)), (14, .int .i64 b0), (19, .pointer (some ⟨a1, 0, none⟩)), (25, .slice f3 a2.length j9), (34, .slice p9 a5.length v9), (36, .pointer (some ⟨a1, 0, none⟩))] #[true, true, true, true, true, true, true, true, true, true, true, true, true, true, true, true, true, true, true, false, false, false, false] (by kernel_rfl) (by kernel_rfl) ?_
        refine ED.one 19 3 #[true, true, true, true, true, true, true, true, true, true, true, true, true, true, true, true, true, true, true, true, false, false, false] (by kernel_rfl) (by kernel_rfl) (by kernel_rfl) (EO.storeBox (os' := Ass.own 3 (Kd.int .i64) (some ⟨A6, 0, none⟩) 1 a9 :: Ass.deep 94 96 kS96 f3 j9 a2 :: Ass.box 91 a1 [.slice f3 a2.length j9, .slice a7 a6.length a8] :: Ass.own 3 (Kd.int .i64) p9 v9 a5 :: os) hS 2 rfl 89 0 (.slice f3 a2.length j9) [.slice f3 a2.length j9, .slice a7 a6.length a8] (by kernel_rfl) (by kernel_rfl) (by kernel_rfl) (by kernel_rfl) (by kernel_rfl) (by kernel_rfl) rfl rfl ?_)
        intro w hS
        have hC : Core B [] [Ro.sl (Kd.int .i64) (some a4) a3 a0, Ro.sl (Kd.int .i64) A12 C13 l11] _ := ⟨_, _, hS⟩
        refine ⟨hC, ?_⟩
        refine ED.quick hN hF hC [20, 21] [3, 12, 13, 14, 34, 38] 1 [(3, .pointer (some ⟨a1, 0, none⟩)), (12, .slice (some a4) a0.length a3), (13, .int .i64 (a0.length : Int)), (14, .int .i64 b0), (34, .slice p9 a5.length v9), (38, .pointer (some ⟨a1, 1, none⟩))] #[true, true, true, true, true, true, true, true, true, true, true, true, true, true, true, true, true, true, true, true, true, true, false] (by kernel_rfl) (by kernel_rfl) ?_
        refine ED.one 22 0 #[true, true, true, true, true, true, true, true, true, true, true, true, true, true, true, true, true, true, true, true, true, true, true] (by kernel_rfl) (by kernel_rfl) (by kernel_rfl) (EO.storeBox (os' := Ass.own 3 (Kd.int .i64) (some ⟨A6, 0, none⟩) 1 a9 :: Ass.deep 94 96 kS96 f3 j9 a2 :: Ass.box 91 a1 [.slice f3 a2.length j9, .slice p9 a5.length v9] :: Ass.own 3 (Kd.int .i64) p9 v9 a5 :: os) hS 2 rfl 66 1 (.slice p9 a5.length v9) [.slice f3 a2.length j9, .slice p9 a5.length v9] (by kernel_rfl) (by kernel_rfl) (by kernel_rfl) (by kernel_rfl) (by kernel_rfl) (by kernel_rfl) rfl rfl ?_)
        intro w hS
        have hC : Core B [] [Ro.sl (Kd.int .i64) (some a4) a3 a0, Ro.sl (Kd.int .i64) A12 C13 l11] _ := ⟨_, _, hS⟩
        refine ⟨hC, ?_⟩
        refine ED.done (by kernel_rfl) ?_
        refine EQ.to ?_
        refine EQ.keep [3, 12, 13, 14] [(3, .pointer (some ⟨a1, 0, none⟩)), (12, .slice (some a4) a0.length a3), (13, .int .i64 (a0.length : Int)), (14, .int .i64 b0)] (by kernel_rfl) ?_
        exact fun a ha => ⟨(some ⟨A6, 0, none⟩), 1, f3, j9, p9, v9, ha, (hS.re [3, 3, 3, 3] [] rfl (sub_cons 0 rfl (sub_cons 1 rfl (sub_tail (sub_tail (sub_self))))))⟩
       ·refine EO.lit hS (Kd.int .i64) 3 66 1 #[(0, .int .i64 (mn (mx (a0.getD b0.toNat 0) 0) 4096))] [.int .i64 (mn (mx (a0.getD b0.toNat 0) 0) 4096)] a9 33 (by kernel_rfl) (by kernel_rfl) (by kernel_rfl) (fun _ => (by kernel_rfl)) (by rw [b5]; rfl) (by kernel_rfl) (fun w G hr => (by rw [b5]; exact ⟨[.int .i64 (mn (mx (a0.getD b0.toNat 0) 0) 4096)], [], rfl, rfl, rfl⟩)) ?_
        intro z1 w hS
        have hC : Core B [] [Ro.sl (Kd.int .i64) (some a4) a3 a0, Ro.sl (Kd.int .i64) A12 C13 l11] _ := ⟨_, _, hS⟩
        refine ⟨hC, ?_⟩
        refine ED.at' #[true, true, true, true, true, true, true, false, true, true, true, true, true, true, true, true, false, false, false, false, false, false, false] (by kernel_rfl) ?_
        have hS := St.as (os' := Ass.deep 94 96 kS96 (some ⟨z3, 0, none⟩) 1 ([([] : List S96)] : List (List S96)) :: Ass.own 3 (Kd.int .i64) (some ⟨z1, 0, none⟩) 1 a9 :: Ass.box 91 a1 [.slice b2 b1.length b3, .slice a7 a6.length a8] :: Ass.deep 94 96 kS96 b2 b3 b1 :: Ass.own 3 (Kd.int .i64) a7 a8 a6 :: os) (St.fold (B := B) (os := _) (rs := _) (et := 94) (et' := 96) (K := kS96) (hs := [(none, ([] : List S96).length, 0)]) (xs := ([([] : List S96)] : List (List S96))) ⟨rfl, trivial⟩ (St.re hS [1, 2] [] rfl sub_self)) rfl
        refine ED.one 7 7 #[true, true, true, true, true, true, true, true, true, true, true, true, true, true, true, true, false, false, false, false, false, false, false] (by kernel_rfl) (by kernel_rfl) (by kernel_rfl) (EO.appendDeep hS 89 89 24 3 0 kS96 b2 b3 b1 rfl (some ⟨z3, 0, none⟩) 1 ([([] : List S96)] : List (List S96)) rfl a2 b9 (fun f4 m0 => Ass.deep 94 96 kS96 f4 m0 a2 :: Ass.own 3 (Kd.int .i64) (some ⟨z1, 0, none⟩) 1 a9 :: Ass.box 91 a1 [.slice b2 b1.length b3, .slice a7 a6.length a8] :: Ass.own 3 (Kd.int .i64) a7 a8 a6 :: os) 25 (by kernel_rfl) (by kernel_rfl) (by kernel_rfl) (by kernel_rfl) b8 (fun _ _ => rfl) ?_)
        intro f4 m0 w hS
        have hC : Core B [] [Ro.sl (Kd.int .i64) (some a4) a3 a0, Ro.sl (Kd.int .i64) A12 C13 l11] _ := ⟨_, _, hS⟩
        refine ⟨hC, ?_⟩
        refine ED.one 16 6 #[true, true, true, true, true, true, true, true, true, true, true, true, true, true, true, true, true, false, false, false, false, false, false] (by kernel_rfl) (by kernel_rfl) (by kernel_rfl) (EO.append hS 66 66 3 8 3 (Kd.int .i64) a7 a8 a6 rfl (some ⟨z1, 0, none⟩) 1 a9 (Rd.own 1 3 rfl) a5 b7 (fun q0 x0 => Ass.deep 94 96 kS96 f4 m0 a2 :: Ass.own 3 (Kd.int .i64) (some ⟨z1, 0, none⟩) 1 a9 :: Ass.box 91 a1 [.slice b2 b1.length b3, .slice a7 a6.length a8] :: Ass.own 3 (Kd.int .i64) q0 x0 a5 :: os) 34 (by kernel_rfl) (by kernel_rfl) (by kernel_rfl) (by kernel_rfl) b6 (fun _ _ => rfl) ?_)
        intro q0 x0 w hS
        have hC : Core B [] [Ro.sl (Kd.int .i64) (some a4) a3 a0, Ro.sl (Kd.int .i64) A12 C13 l11] _ := ⟨_, _, hS⟩
        refine ⟨hC, ?_⟩
        refine ED.quick hN hF hC [17, 18] [3, 12, 13, 14, 19, 25, 34, 36] 4 [(3, .pointer (some ⟨a1, 0, none⟩)), (12, .slice (some a4) a0.length a3), (13, .int .i64 (a0.length : Int)), (14, .int .i64 b0), (19, .pointer (some ⟨a1, 0, none⟩)), (25, .slice f4 a2.length m0), (34, .slice q0 a5.length x0), (36, .pointer (some ⟨a1, 0, none⟩))] #[true, true, true, true, true, true, true, true, true, true, true, true, true, true, true, true, true, true, true, false, false, false, false] (by kernel_rfl) (by kernel_rfl) ?_
        refine ED.one 19 3 #[true, true, true, true, true, true, true, true, true, true, true, true, true, true, true, true, true, true, true, true, false, false, false] (by kernel_rfl) (by kernel_rfl) (by kernel_rfl) (EO.storeBox (os' := Ass.deep 94 96 kS96 f4 m0 a2 :: Ass.own 3 (Kd.int .i64) (some ⟨z1, 0, none⟩) 1 a9 :: Ass.box 91 a1 [.slice f4 a2.length m0, .slice a7 a6.length a8] :: Ass.own 3 (Kd.int .i64) q0 x0 a5 :: os) hS 2 rfl 89 0 (.slice f4 a2.length m0) [.slice f4 a2.length m0, .slice a7 a6.length a8] (by kernel_rfl) (by kernel_rfl) (by kernel_rfl) (by kernel_rfl) (by kernel_rfl) (by kernel_rfl) rfl rfl ?_)
        intro w hS
        have hC : Core B [] [Ro.sl (Kd.int .i64) (some a4) a3 a0, Ro.sl (Kd.int .i64) A12 C13 l11] _ := ⟨_, _, hS⟩
        refine ⟨hC, ?_⟩
        refine ED.quick hN hF hC [20, 21] [3, 12, 13, 14, 34, 38] 1 [(3, .pointer (some ⟨a1, 0, none⟩)), (12, .slice (some a4) a0.length a3), (13, .int .i64 (a0.length : Int)), (14, .int .i64 b0), (34, .slice q0 a5.length x0), (38, .pointer (some ⟨a1, 1, none⟩))] #[true, true, true, true, true, true, true, true, true, true, true, true, true, true, true, true, true, true, true, true, true, true, false] (by kernel_rfl) (by kernel_rfl) ?_
        refine ED.one 22 0 #[true, true, true, true, true, true, true, true, true, true, true, true, true, true, true, true, true, true, true, true, true, true, true] (by kernel_rfl) (by kernel_rfl) (by kernel_rfl) (EO.storeBox (os' := Ass.deep 94 96 kS96 f4 m0 a2 :: Ass.own 3 (Kd.int .i64) (some ⟨z1, 0, none⟩) 1 a9 :: Ass.box 91 a1 [.slice f4 a2.length m0, .slice q0 a5.length x0] :: Ass.own 3 (Kd.int .i64) q0 x0 a5 :: os) hS 2 rfl 66 1 (.slice q0 a5.length x0) [.slice f4 a2.length m0, .slice q0 a5.length x0] (by kernel_rfl) (by kernel_rfl) (by kernel_rfl) (by kernel_rfl) (by kernel_rfl) (by kernel_rfl) rfl rfl ?_)
        intro w hS
        have hC : Core B [] [Ro.sl (Kd.int .i64) (some a4) a3 a0, Ro.sl (Kd.int .i64) A12 C13 l11] _ := ⟨_, _, hS⟩
        refine ⟨hC, ?_⟩
        refine ED.done (by kernel_rfl) ?_
        refine EQ.to ?_
        refine EQ.keep [3, 12, 13, 14] [(3, .pointer (some ⟨a1, 0, none⟩)), (12, .slice (some a4) a0.length a3), (13, .int .i64 (a0.length : Int)), (14, .int .i64 b0)] (by kernel_rfl) ?_
        exact fun a ha => ⟨(some ⟨z1, 0, none⟩), 1, f4, m0, q0, x0, ha, (hS.re [3, 3, 2, 3] [] rfl (sub_cons 0 rfl (sub_cons 1 rfl (sub_tail (sub_tail (sub_self))))))⟩
      ·refine EO.lit hS (Kd.int .i64) 3 66 1 #[(0, .int .i64 (mn (mx (a0.getD b0.toNat 0) 0) 4096))] [.int .i64 (mn (mx (a0.getD b0.toNat 0) 0) 4096)] a9 33 (by kernel_rfl) (by kernel_rfl) (by kernel_rfl) (fun _ => (by kernel_rfl)) (by rw [b5]; rfl) (by kernel_rfl) (fun w G hr => (by rw [b5]; exact ⟨[.int .i64 (mn (mx (a0.getD b0.toNat 0) 0) 4096)], [], rfl, rfl, rfl⟩)) ?_
       intro z2 w hS
       have hC : Core B [] [Ro.sl (Kd.int .i64) (some a4) a3 a0, Ro.sl (Kd.int .i64) A12 C13 l11] _ := ⟨_, _, hS⟩
       refine ⟨hC, ?_⟩
       refine ED.at' #[true, true, true, true, true, false, true, false, true, true, true, true, true, true, true, true, false, false, false, false, false, false, false] (by kernel_rfl) ?_
       refine ED.one 5 8 #[true, true, true, true, true, true, true, false, true, true, true, true, true, true, true, true, false, false, false, false, false, false, false] (by kernel_rfl) (by kernel_rfl) (by kernel_rfl) (EO.Y (YO.loadBox hS 3 rfl 89 0 1 (.slice b2 b1.length b3) 23 (by kernel_rfl) (by kernel_rfl) (by kernel_rfl) (by kernel_rfl)) ?_)
       have hC : Core B [] [Ro.sl (Kd.int .i64) (some a4) a3 a0, Ro.sl (Kd.int .i64) A12 C13 l11] _ := ⟨_, _, hS⟩
       refine ⟨hC, ?_⟩
       have hS := St.as (os' := Ass.deep 94 96 kS96 (some ⟨z3, 0, none⟩) 1 ([([] : List S96)] : List (List S96)) :: Ass.own 3 (Kd.int .i64) (some ⟨z2, 0, none⟩) 1 a9 :: Ass.box 91 a1 [.slice b2 b1.length b3, .slice a7 a6.length a8] :: Ass.deep 94 96 kS96 b2 b3 b1 :: Ass.own 3 (Kd.int .i64) a7 a8 a6 :: os) (St.fold (B := B) (os := _) (rs := _) (et := 94) (et' := 96) (K := kS96) (hs := [(none, ([] : List S96).length, 0)]) (xs := ([([] : List S96)] : List (List S96))) ⟨rfl, trivial⟩ (St.re hS [1, 2] [] rfl sub_self)) rfl
       refine ED.one 7 7 #[true, true, true, true, true, true, true, true, true, true, true, true, true, true, true, true, false, false, false, false, false, false, false] (by kernel_rfl) (by kernel_rfl) (by kernel_rfl) (EO.appendDeep hS 89 89 24 3 0 kS96 b2 b3 b1 rfl (some ⟨z3, 0, none⟩) 1 ([([] : List S96)] : List (List S96)) rfl a2 b9 (fun f5 m1 => Ass.deep 94 96 kS96 f5 m1 a2 :: Ass.own 3 (Kd.int .i64) (some ⟨z2, 0, none⟩) 1 a9 :: Ass.box 91 a1 [.slice b2 b1.length b3, .slice a7 a6.length a8] :: Ass.own 3 (Kd.int .i64) a7 a8 a6 :: os) 25 (by kernel_rfl) (by kernel_rfl) (by kernel_rfl) (by kernel_rfl) b8 (fun _ _ => rfl) ?_)
       intro f5 m1 w hS
       have hC : Core B [] [Ro.sl (Kd.int .i64) (some a4) a3 a0, Ro.sl (Kd.int .i64) A12 C13 l11] _ := ⟨_, _, hS⟩
       refine ⟨hC, ?_⟩
       refine ED.one 16 6 #[true, true, true, true, true, true, true, true, true, true, true, true, true, true, true, true, true, false, false, false, false, false, false] (by kernel_rfl) (by kernel_rfl) (by kernel_rfl) (EO.append hS 66 66 3 8 3 (Kd.int .i64) a7 a8 a6 rfl (some ⟨z2, 0, none⟩) 1 a9 (Rd.own 1 3 rfl) a5 b7 (fun q1 x1 => Ass.deep 94 96 kS96 f5 m1 a2 :: Ass.own 3 (Kd.int .i64) (some ⟨z2, 0, none⟩) 1 a9 :: Ass.box 91 a1 [.slice b2 b1.length b3, .slice a7 a6.length a8] :: Ass.own 3 (Kd.int .i64) q1 x1 a5 :: os) 34 (by kernel_rfl) (by kernel_rfl) (by kernel_rfl) (by kernel_rfl) b6 (fun _ _ => rfl) ?_)
       intro q1 x1 w hS
       have hC : Core B [] [Ro.sl (Kd.int .i64) (some a4) a3 a0, Ro.sl (Kd.int .i64) A12 C13 l11] _ := ⟨_, _, hS⟩
       refine ⟨hC, ?_⟩
       refine ED.quick hN hF hC [17, 18] [3, 12, 13, 14, 19, 25, 34, 36] 4 [(3, .pointer (some ⟨a1, 0, none⟩)), (12, .slice (some a4) a0.length a3), (13, .int .i64 (a0.length : Int)), (14, .int .i64 b0), (19, .pointer (some ⟨a1, 0, none⟩)), (25, .slice f5 a2.length m1), (34, .slice q1 a5.length x1), (36, .pointer (some ⟨a1, 0, none⟩))] #[true, true, true, true, true, true, true, true, true, true, true, true, true, true, true, true, true, true, true, false, false, false, false] (by kernel_rfl) (by kernel_rfl) ?_
       refine ED.one 19 3 #[true, true, true, true, true, true, true, true, true, true, true, true, true, true, true, true, true, true, true, true, false, false, false] (by kernel_rfl) (by kernel_rfl) (by kernel_rfl) (EO.storeBox (os' := Ass.deep 94 96 kS96 f5 m1 a2 :: Ass.own 3 (Kd.int .i64) (some ⟨z2, 0, none⟩) 1 a9 :: Ass.box 91 a1 [.slice f5 a2.length m1, .slice a7 a6.length a8] :: Ass.own 3 (Kd.int .i64) q1 x1 a5 :: os) hS 2 rfl 89 0 (.slice f5 a2.length m1) [.slice f5 a2.length m1, .slice a7 a6.length a8] (by kernel_rfl) (by kernel_rfl) (by kernel_rfl) (by kernel_rfl) (by kernel_rfl) (by kernel_rfl) rfl rfl ?_)
       intro w hS
       have hC : Core B [] [Ro.sl (Kd.int .i64) (some a4) a3 a0, Ro.sl (Kd.int .i64) A12 C13 l11] _ := ⟨_, _, hS⟩
       refine ⟨hC, ?_⟩
       refine ED.quick hN hF hC [20, 21] [3, 12, 13, 14, 34, 38] 1 [(3, .pointer (some ⟨a1, 0, none⟩)), (12, .slice (some a4) a0.length a3), (13, .int .i64 (a0.length : Int)), (14, .int .i64 b0), (34, .slice q1 a5.length x1), (38, .pointer (some ⟨a1, 1, none⟩))] #[true, true, true, true, true, true, true, true, true, true, true, true, true, true, true, true, true, true, true, true, true, true, false] (by kernel_rfl) (by kernel_rfl) ?_
       refine ED.one 22 0 #[true, true, true, true, true, true, true, true, true, true, true, true, true, true, true, true, true, true, true, true, true, true, true] (by kernel_rfl) (by kernel_rfl) (by kernel_rfl) (EO.storeBox (os' := Ass.deep 94 96 kS96 f5 m1 a2 :: Ass.own 3 (Kd.int .i64) (some ⟨z2, 0, none⟩) 1 a9 :: Ass.box 91 a1 [.slice f5 a2.length m1, .slice q1 a5.length x1] :: Ass.own 3 (Kd.int .i64) q1 x1 a5 :: os) hS 2 rfl 66 1 (.slice q1 a5.length x1) [.slice f5 a2.length m1, .slice q1 a5.length x1] (by kernel_rfl) (by kernel_rfl) (by kernel_rfl) (by kernel_rfl) (by kernel_rfl) (by kernel_rfl) rfl rfl ?_)
       intro w hS
       have hC : Core B [] [Ro.sl (Kd.int .i64) (some a4) a3 a0, Ro.sl (Kd.int .i64) A12 C13 l11] _ := ⟨_, _, hS⟩
       refine ⟨hC, ?_⟩
       refine ED.done (by kernel_rfl) ?_
       refine EQ.to ?_
       refine EQ.keep [3, 12, 13, 14] [(3, .pointer (some ⟨a1, 0, none⟩)), (12, .slice (some a4) a0.length a3), (13, .int .i64 (a0.length : Int)), (14, .int .i64 b0)] (by kernel_rfl) ?_
       exact fun a ha => ⟨(some ⟨z2, 0, none⟩), 1, f5, m1, q1, x1, ha, (hS.re [3, 3, 2, 3] [] rfl (sub_cons 0 rfl (sub_cons 1 rfl (sub_tail (sub_tail (sub_self))))))⟩
     ·refine EO.lit hS (Kd.int .i64) 3 66 1 #[(0, .int .i64 (mn (mx (a0.getD b0.toNat 0) 0) 4096))] [.int .i64 (mn (mx (a0.getD b0.toNat 0) 0) 4096)] a9 33 (by kernel_rfl) (by kernel_rfl) (by kernel_rfl) (fun _ => (by kernel_rfl)) (by rw [b5]; rfl) (by kernel_rfl) (fun w G hr => (by rw [b5]; exact ⟨[.int .i64 (mn (mx (a0.getD b0.toNat 0) 0) 4096)], [], rfl, rfl, rfl⟩)) ?_
      intro c9 w hS
      have hC : Core B [] [Ro.sl (Kd.int .i64) (some a4) a3 a0, Ro.sl (Kd.int .i64) A12 C13 l11] _ := ⟨_, _, hS⟩
      refine ⟨hC, ?_⟩
      refine ED.at' #[true, true, true, true, true, false, false, false, true, true, true, true, true, true, true, true, false, false, false, false, false, false, false] (by kernel_rfl) ?_
      refine ED.two 5 6 9 (by kernel_rfl) (by kernel_rfl) ?_ ?_
      ·refine EO.Y (YO.loadBox hS 1 rfl 89 0 1 (.slice b2 b1.length b3) 23 (by kernel_rfl) (by kernel_rfl) (by kernel_rfl) (by kernel_rfl)) ?_
       have hC : Core B [] [Ro.sl (Kd.int .i64) (some a4) a3 a0, Ro.sl (Kd.int .i64) A12 C13 l11] _ := ⟨_, _, hS⟩
       refine ⟨hC, ?_⟩
       refine ED.at' #[true, true, true, true, true, true, false, false, true, true, true, true, true, true, true, true, false, false, false, false, false, false, false] (by kernel_rfl) ?_
       refine ED.one 6 8 #[true, true, true, true, true, true, true, false, true, true, true, true, true, true, true, true, false, false, false, false, false, false, false] (by kernel_rfl) (by kernel_rfl) (by kernel_rfl) (EO.lit (xs := ([(none, ([] : List S96).length, 0)] : List Hdr)) hS Kd.hdr 94 89 1 #[(0, .slice none ([] : List S96).length 0)] [.slice none ([] : List S96).length 0] 24 (by kernel_rfl) (by kernel_rfl) (by kernel_rfl) (fun _ => (by kernel_rfl)) rfl (by kernel_rfl) (fun w G hr => ⟨[.slice none ([] : List S96).length 0], [], rfl, rfl, rfl⟩) ?_)
       intro C8 w hS
       have hS := St.nilO hS 96 kS96
       have hC : Core B [] [Ro.sl (Kd.int .i64) (some a4) a3 a0, Ro.sl (Kd.int .i64) A12 C13 l11] _ := ⟨_, _, hS⟩
       refine ⟨hC, ?_⟩
       have hS := St.as (os' := Ass.deep 94 96 kS96 (some ⟨C8, 0, none⟩) 1 ([([] : List S96)] : List (List S96)) :: Ass.own 3 (Kd.int .i64) (some ⟨c9, 0, none⟩) 1 a9 :: Ass.box 91 a1 [.slice b2 b1.length b3, .slice a7 a6.length a8] :: Ass.deep 94 96 kS96 b2 b3 b1 :: Ass.own 3 (Kd.int .i64) a7 a8 a6 :: os) (St.fold (B := B) (os := _) (rs := _) (et := 94) (et' := 96) (K := kS96) (hs := [(none, ([] : List S96).length, 0)]) (xs := ([([] : List S96)] : List (List S96))) ⟨rfl, trivial⟩ (St.re hS [0, 1] [] rfl sub_self)) rfl
       refine ED.one 7 7 #[true, true, true, true, true, true, true, true, true, true, true, true, true, true, true, true, false, false, false, false, false, false, false] (by kernel_rfl) (by kernel_rfl) (by kernel_rfl) (EO.appendDeep hS 89 89 24 3 0 kS96 b2 b3 b1 rfl (some ⟨C8, 0, none⟩) 1 ([([] : List S96)] : List (List S96)) rfl a2 b9 (fun f6 m2 => Ass.deep 94 96 kS96 f6 m2 a2 :: Ass.own 3 (Kd.int .i64) (some ⟨c9, 0, none⟩) 1 a9 :: Ass.box 91 a1 [.slice b2 b1.length b3, .slice a7 a6.length a8] :: Ass.own 3 (Kd.int .i64) a7 a8 a6 :: os) 25 (by kernel_rfl) (by kernel_rfl) (by kernel_rfl) (by kernel_rfl) b8 (fun _ _ => rfl) ?_)
       intro f6 m2 w hS
       have hC : Core B [] [Ro.sl (Kd.int .i64) (some a4) a3 a0, Ro.sl (Kd.int .i64) A12 C13 l11] _ := ⟨_, _, hS⟩
       refine ⟨hC, ?_⟩
       refine ED.one 16 6 #[true, true, true, true, true, true, true, true, true, true, true, true, true, true, true, true, true, false, false, false, false, false, false] (by kernel_rfl) (by kernel_rfl) (by kernel_rfl) (EO.append hS 66 66 3 8 3 (Kd.int .i64) a7 a8 a6 rfl (some ⟨c9, 0, none⟩) 1 a9 (Rd.own 1 3 rfl) a5 b7 (fun q2 x2 => Ass.deep 94 96 kS96 f6 m2 a2 :: Ass.own 3 (Kd.int .i64) (some ⟨c9, 0, none⟩) 1 a9 :: Ass.box 91 a1 [.slice b2 b1.length b3, .slice a7 a6.length a8] :: Ass.own 3 (Kd.int .i64) q2 x2 a5 :: os) 34 (by kernel_rfl) (by kernel_rfl) (by kernel_rfl) (by kernel_rfl) b6 (fun _ _ => rfl) ?_)
       intro q2 x2 w hS
       have hC : Core B [] [Ro.sl (Kd.int .i64) (some a4) a3 a0, Ro.sl (Kd.int .i64) A12 C13 l11] _ := ⟨_, _, hS⟩
       refine ⟨hC, ?_⟩
       refine ED.quick hN hF hC [17, 18] [3, 12, 13, 14, 19, 25, 34, 36] 4 [(3, .pointer (some ⟨a1, 0, none⟩)), (12, .slice (some a4) a0.length a3), (13, .int .i64 (a0.length : Int)), (14, .int .i64 b0), (19, .pointer (some ⟨a1, 0, none⟩)), (25, .slice f6 a2.length m2), (34, .slice q2 a5.length x2), (36, .pointer (some ⟨a1, 0, none⟩))] #[true, true, true, true, true, true, true, true, true, true, true, true, true, true, true, true, true, true, true, false, false, false, false] (by kernel_rfl) (by kernel_rfl) ?_
       refine ED.one 19 3 #[true, true, true, true, true, true, true, true, true, true, true, true, true, true, true, true, true, true, true, true, false, false, false] (by kernel_rfl) (by kernel_rfl) (by kernel_rfl) (EO.storeBox (os' := Ass.deep 94 96 kS96 f6 m2 a2 :: Ass.own 3 (Kd.int .i64) (some ⟨c9, 0, none⟩) 1 a9 :: Ass.box 91 a1 [.slice f6 a2.length m2, .slice a7 a6.length a8] :: Ass.own 3 (Kd.int .i64) q2 x2 a5 :: os) hS 2 rfl 89 0 (.slice f6 a2.length m2) [.slice f6 a2.length m2, .slice a7 a6.length a8] (by kernel_rfl) (by kernel_rfl) (by kernel_rfl) (by kernel_rfl) (by kernel_rfl) (by kernel_rfl) rfl rfl ?_)
       intro w hS
       have hC : Core B [] [Ro.sl (Kd.int .i64) (some a4) a3 a0, Ro.sl (Kd.int .i64) A12 C13 l11] _ := ⟨_, _, hS⟩
       refine ⟨hC, ?_⟩
       refine ED.quick hN hF hC [20, 21] [3, 12, 13, 14, 34, 38] 1 [(3, .pointer (some ⟨a1, 0, none⟩)), (12, .slice (some a4) a0.length a3), (13, .int .i64 (a0.length : Int)), (14, .int .i64 b0), (34, .slice q2 a5.length x2), (38, .pointer (some ⟨a1, 1, none⟩))] #[true, true, true, true, true, true, true, true, true, true, true, true, true, true, true, true, true, true, true, true, true, true, false] (by kernel_rfl) (by kernel_rfl) ?_
       refine ED.one 22 0 #[true, true, true, true, true, true, true, true, true, true, true, true, true, true, true, true, true, true, true, true, true, true, true] (by kernel_rfl) (by kernel_rfl) (by kernel_rfl) (EO.storeBox (os' := Ass.deep 94 96 kS96 f6 m2 a2 :: Ass.own 3 (Kd.int .i64) (some ⟨c9, 0, none⟩) 1 a9 :: Ass.box 91 a1 [.slice f6 a2.length m2, .slice q2 a5.length x2] :: Ass.own 3 (Kd.int .i64) q2 x2 a5 :: os) hS 2 rfl 66 1 (.slice q2 a5.length x2) [.slice f6 a2.length m2, .slice q2 a5.length x2] (by kernel_rfl) (by kernel_rfl) (by kernel_rfl) (by kernel_rfl) (by kernel_rfl) (by kernel_rfl) rfl rfl ?_)
       intro w hS
       have hC : Core B [] [Ro.sl (Kd.int .i64) (some a4) a3 a0, Ro.sl (Kd.int .i64) A12 C13 l11] _ := ⟨_, _, hS⟩
       refine ⟨hC, ?_⟩
       refine ED.done (by kernel_rfl) ?_
       refine EQ.to ?_
       refine EQ.keep [3, 12, 13, 14] [(3, .pointer (some ⟨a1, 0, none⟩)), (12, .slice (some a4) a0.length a3), (13, .int .i64 (a0.length : Int)), (14, .int .i64 b0)] (by kernel_rfl) ?_
       exact fun a ha => ⟨(some ⟨c9, 0, none⟩), 1, f6, m2, q2, x2, ha, (hS.re [3, 3, 2, 3] [] rfl (sub_cons 0 rfl (sub_cons 1 rfl (sub_tail (sub_tail (sub_self))))))⟩
      ·refine EO.lit (xs := ([(none, ([] : List S96).length, 0)] : List Hdr)) hS Kd.hdr 94 89 1 #[(0, .slice none ([] : List S96).length 0)] [.slice none ([] : List S96).length 0] 24 (by kernel_rfl) (by kernel_rfl) (by kernel_rfl) (fun _ => (by kernel_rfl)) rfl (by kernel_rfl) (fun w G hr => ⟨[.slice none ([] : List S96).length 0], [], rfl, rfl, rfl⟩) ?_
       intro C9 w hS
       have hS := St.nilO hS 96 kS96
       have hC : Core B [] [Ro.sl (Kd.int .i64) (some a4) a3 a0, Ro.sl (Kd.int .i64) A12 C13 l11] _ := ⟨_, _, hS⟩
       refine ⟨hC, ?_⟩
       refine ED.at' #[true, true, true, true, true, false, true, false, true, true, true, true, true, true, true, true, false, false, false, false, false, false, false] (by kernel_rfl) ?_
       refine ED.one 5 8 #[true, true, true, true, true, true, true, false, true, true, true, true, true, true, true, true, false, false, false, false, false, false, false] (by kernel_rfl) (by kernel_rfl) (by kernel_rfl) (EO.Y (YO.loadBox hS 3 rfl 89 0 1 (.slice b2 b1.length b3) 23 (by kernel_rfl) (by kernel_rfl) (by kernel_rfl) (by kernel_rfl)) ?_)
       have hC : Core B [] [Ro.sl (Kd.int .i64) (some a4) a3 a0, Ro.sl (Kd.int .i64) A12 C13 l11] _ := ⟨_, _, hS⟩
       refine ⟨hC, ?_⟩
       have hS := St.as (os' := Ass.deep 94 96 kS96 (some ⟨C9, 0, none⟩) 1 ([([] : List S96)] : List (List S96)) :: Ass.own 3 (Kd.int .i64) (some ⟨c9, 0, none⟩) 1 a9 :: Ass.box 91 a1 [.slice b2 b1.length b3, .slice a7 a6.length a8] :: Ass.deep 94 96 kS96 b2 b3 b1 :: Ass.own 3 (Kd.int .i64) a7 a8 a6 :: os) (St.fold (B := B) (os := _) (rs := _) (et := 94) (et' := 96) (K := kS96) (hs := [(none, ([] : List S96).length, 0)]) (xs := ([([] : List S96)] : List (List S96))) ⟨rfl, trivial⟩ (St.re hS [0, 1] [] rfl sub_self)) rfl
       refine ED.one 7 7 #[true, true, true, true, true, true, true, true, true, true, true, true, true, true, true, true, false, false, false, false, false, false, false] (by kernel_rfl) (by kernel_rfl) (by kernel_rfl) (EO.appendDeep hS 89 89 24 3 0 kS96 b2 b3 b1 rfl (some ⟨C9, 0, none⟩) 1 ([([] : List S96)] : List (List S96)) rfl a2 b9 (fun f7 m3 => Ass.deep 94 96 kS96 f7 m3 a2 :: Ass.own 3 (Kd.int .i64) (some ⟨c9, 0, none⟩) 1 a9 :: Ass.box 91 a1 [.slice b2 b1.length b3, .slice a7 a6.length a8] :: Ass.own 3 (Kd.int .i64) a7 a8 a6 :: os) 25 (by kernel_rfl) (by kernel_rfl) (by kernel_rfl) (by kernel_rfl) b8 (fun _ _ => rfl) ?_)
       intro f7 m3 w hS
       have hC : Core B [] [Ro.sl (Kd.int .i64) (some a4) a3 a0, Ro.sl (Kd.int .i64) A12 C13 l11] _ := ⟨_, _, hS⟩
       refine ⟨hC, ?_⟩
       refine ED.one 16 6 #[true, true, true, true, true, true, true, true, true, true, true, true, true, true, true, true, true, false, false, false, false, false, false] (by kernel_rfl) (by kernel_rfl) (by kernel_rfl) (EO.append hS 66 66 3 8 3 (Kd.int .i64) a7 a8 a6 rfl (some ⟨c9, 0, none⟩) 1 a9 (Rd.own 1 3 rfl) a5 b7 (fun q3 x3 => Ass.deep 94 96 kS96 f7 m3 a2 :: Ass.own 3 (Kd.int .i64) (some ⟨c9, 0, none⟩) 1 a9 :: Ass.box 91 a1 [.slice b2 b1.length b3, .slice a7 a6.length a8] :: Ass.own 3 (Kd.int .i64) q3 x3 a5 :: os) 34 (by kernel_rfl) (by kernel_rfl) (by kernel_rfl) (by kernel_rfl) b6 (fun _ _ => rfl) ?_)
       intro q3 x3 w hS
       have hC : Core B [] [Ro.sl (Kd.int .i64) (some a4) a3 a0, Ro.sl (Kd.int .i64) A12 C13 l11] _ := ⟨_, _, hS⟩
       refine ⟨hC, ?_⟩
       refine ED.quick hN hF hC [17, 18] [3, 12, 13, 14, 19, 25, 34, 36] 4 [(3, .pointer (some ⟨a1, 0, none⟩)), (12, .slice (some a4) a0.length a3), (13, .int .i64 (a0.length : Int)), (14, .int .i64 b0), (19, .pointer (some ⟨a1, 0, none⟩)), (25, .slice f7 a2.length m3), (34, .slice q3 a5.length x3), (36, .pointer (some ⟨a1, 0, none⟩))] #[true, true, true, true, true, true, true, true, true, true, true, true, true, true, true, true, true, true, true, false, false, false, false] (by kernel_rfl) (by kernel_rfl) ?_
       refine ED.one 19 3 #[true, true, true, true, true, true, true, true, true, true, true, true, true, true, true, true, true, true, true, true, false, false, false] (by kernel_rfl) (by kernel_rfl) (by kernel_rfl) (EO.storeBox (os' := Ass.deep 94 96 kS96 f7 m3 a2 :: Ass.own 3 (Kd.int .i64) (some ⟨c9, 0, none⟩) 1 a9 :: Ass.box 91 a1 [.slice f7 a2.length m3, .slice a7 a6.length a8] :: Ass.own 3 (Kd.int .i64) q3 x3 a5 :: os) hS 2 rfl 89 0 (.slice f7 a2.length m3) [.slice f7 a2.length m3, .slice a7 a6.length a8] (by kernel_rfl) (by kernel_rfl) (by kernel_rfl) (by kernel_rfl) (by kernel_rfl) (by kernel_rfl) rfl rfl ?_)
       intro w hS
       have hC : Core B [] [Ro.sl (Kd.int .i64) (some a4) a3 a0, Ro.sl (Kd.int .i64) A12 C13 l11] _ := ⟨_, _, hS⟩
       refine ⟨hC, ?_⟩
       refine ED.quick hN hF hC [20, 21] [3, 12, 13, 14, 34, 38] 1 [(3, .pointer (some ⟨a1, 0, none⟩)), (12, .slice (some a4) a0.length a3), (13, .int .i64 (a0.length : Int)), (14, .int .i64 b0), (34, .slice q3 a5.length x3), (38, .pointer (some ⟨a1, 1, none⟩))] #[true, true, true, true, true, true, true, true, true, true, true, true, true, true, true, true, true, true, true, true, true, true, false] (by kernel_rfl) (by kernel_rfl) ?_
       refine ED.one 22 0 #[true, true, true, true, true, true, true, true, true, true, true, true, true, true, true, true, true, true, true, true, true, true, true] (by kernel_rfl) (by kernel_rfl) (by kernel_rfl) (EO.storeBox (os' := Ass.deep 94 96 kS96 f7 m3 a2 :: Ass.own 3 (Kd.int .i64) (some ⟨c9, 0, none⟩) 1 a9 :: Ass.box 91 a1 [.slice f7 a2.length m3, .slice q3 a5.length x3] :: Ass.own 3 (Kd.int .i64) q3 x3 a5 :: os) hS 2 rfl 66 1 (.slice q3 a5.length x3) [.slice f7 a2.length m3, .slice q3 a5.length x3] (by kernel_rfl) (by kernel_rfl) (by kernel_rfl) (by kernel_rfl) (by kernel_rfl) (by kernel_rfl) rfl rfl ?_)
       intro w hS
       have hC : Core B [] [Ro.sl (Kd.int .i64) (some a4) a3 a0, Ro.sl (Kd.int .i64) A12 C13 l11] _ := ⟨_, _, hS⟩
       refine ⟨hC, ?_⟩
       refine ED.done (by kernel_rfl) ?_
       refine EQ.to ?_
       refine EQ.keep [3, 12, 13, 14] [(3, .pointer (some ⟨a1, 0, none⟩)), (12, .slice (some a4) a0.length a3), (13, .int .i64 (a0.length : Int)), (14, .int .i64 b0)] (by kernel_rfl) ?_
       exact fun a ha => ⟨(some ⟨c9, 0, none⟩), 1, f7, m3, q3, x3, ha, (hS.re [3, 3, 2, 3] [] rfl (sub_cons 0 rfl (sub_cons 1 rfl (sub_tail (sub_tail (sub_self))))))⟩
    ·refine EO.lit hS (Kd.int .i64) 3 66 1 #[(0, .int .i64 (mn (mx (a0.getD b0.toNat 0) 0) 4096))] [.int .i64 (mn (mx (a0.getD b0.toNat 0) 0) 4096)] a9 33 (by kernel_rfl) (by kernel_rfl) (by kernel_rfl) (fun _ => (by kernel_rfl)) (by rw [b5]; rfl) (by kernel_rfl) (fun w G hr => (by rw [b5]; exact ⟨[.int .i64 (mn (mx (a0.getD b0.toNat 0) 0) 4096)], [], rfl, rfl, rfl⟩)) ?_
     intro b4 w hS
     have hC : Core B [] [Ro.sl (Kd.int .i64) (some a4) a3 a0, Ro.sl (Kd.int .i64) A12 C13 l11] _ := ⟨_, _, hS⟩
     refine ⟨hC, ?_⟩
     refine ED.at' #[true, true, true, true, true, false, false, false, true, true, true, false, true, true, true, true, false, false, false, false, false, false, false] (by kernel_rfl) ?_
     refine ED.many 5 [6, 11] 10 (by kernel_rfl) (by kernel_rfl) (Each.cons ?_ (Each.cons ?_ (Each.cons ?_ Each.nil)))
     ·refine EO.Y (YO.loadBox hS 1 rfl 89 0 1 (.slice b2 b1.length b3) 23 (by kernel_rfl) (by kernel_rfl) (by kernel_rfl) (by kernel_rfl)) ?_
      have hC : Core B [] [Ro.sl (Kd.int .i64) (some a4) a3 a0, Ro.sl (Kd.int .i64) A12 C13 l11] _ := ⟨_, _, hS⟩
      refine ⟨hC, ?_⟩
      refine ED.at' #[true, true, true, true, true, true, false, false, true, true, true, false, true, true, true, true, false, false, false, false, false, false, false] (by kernel_rfl) ?_
      refine ED.two 6 11 9 (by kernel_rfl) (by kernel_rfl) ?_ ?_
      ·refine EO.lit (xs := ([(none, ([] : List S96).length, 0)] : List Hdr)) hS Kd.hdr 94 89 1 #[(0, .slice none ([] : List S96).length 0)] [.slice none ([] : List S96).length 0] 24 (by kernel_rfl) (by kernel_rfl) (by kernel_rfl) (fun _ => (by kernel_rfl)) rfl (by kernel_rfl) (fun w G hr => ⟨[.slice none ([] : List S96).length 0], [], rfl, rfl, rfl⟩) ?_
       intro B4 w hS
       have hS := St.nilO hS 96 kS96
       have hC : Core B [] [Ro.sl (Kd.int .i64) (some a4) a3 a0, Ro.sl (Kd.int .i64) A12 C13 l11] _ := ⟨_, _, hS⟩
       refine ⟨hC, ?_⟩
       refine ED.at' #[true, true, true, true, true, true, true, false, true, true, true, false, true, true, true, true, false, false, false, false, false, false, false] (by kernel_rfl) ?_
       refine ED.two 7 11 8 (by kernel_rfl) (by kernel_rfl) ?_ ?_
       ·have hS := St.as (os' := Ass.deep 94 96 kS96 (some ⟨B4, 0, none⟩) 1 ([([] : List S96)] : List (List S96)) :: Ass.own 3 (Kd.int .i64) (some ⟨b4, 0, none⟩) 1 a9 :: Ass.box 91 a1 [.slice b2 b1.length b3, .slice a7 a6.length a8] :: Ass.deep 94 96 kS96 b2 b3 b1 :: Ass.own 3 (Kd.int .i64) a7 a8 a6 :: os) (St.fold (B := B) (os := _) (rs := _) (et := 94) (et' := 96) (K := kS96) (hs := [(none, ([] : List S96).length, 0)]) (xs := ([([] : List S96)] : List (List S96))) ⟨rfl, trivial⟩ (St.re hS [0, 1] [] rfl sub_self)) rfl
        refine EO.appendDeep hS 89 89 24 3 0 kS96 b2 b3 b1 rfl (some ⟨B4, 0, none⟩) 1 ([([] : List S96)] : List (List S96)) rfl a2 b9 (fun f8 m4 => Ass.deep 94 96 kS96 f8 m4 a2 :: Ass.own 3 (Kd.int .i64) (some ⟨b4, 0, none⟩) 1 a9 :: Ass.box 91 a1 [.slice b2 b1.length b3, .slice a7 a6.length a8] :: Ass.own 3 (Kd.int .i64) a7 a8 a6 :: os) 25 (by kernel_rfl) (by kernel_rfl) (by kernel_rfl) (by kernel_rfl) b8 (fun _ _ => rfl) ?_
        intro f8 m4 w hS
        have hC : Core B [] [Ro.sl (Kd.int .i64) (some a4) a3 a0, Ro.sl (Kd.int .i64) A12 C13 l11] _ := ⟨_, _, hS⟩
        refine ⟨hC, ?_⟩
        refine ED.at' #[true, true, true, true, true, true, true, true, true, true, true, false, true, true, true, true, false, false, false, false, false, false, false] (by kernel_rfl) ?_
        refine ED.one 11 7 #[true, true, true, true, true, true, true, true, true, true, true, true, true, true, true, true, false, false, false, false, false, false, false] (by kernel_rfl) (by kernel_rfl) (by kernel_rfl) (EO.Y (YO.loadBox hS 2 rfl 66 1 1 (.slice a7 a6.length a8) 29 (by kernel_rfl) (by kernel_rfl) (by kernel_rfl) (by kernel_rfl)) ?_)
        have hC : Core B [] [Ro.sl (Kd.int .i64) (some a4) a3 a0, Ro.sl (Kd.int .i64) A12 C13 l11] _ := ⟨_, _, hS⟩
        refine ⟨hC, ?_⟩
        refine ED.one 16 6 #[true, true, true, true, true, true, true, true, true, true, true, true, true, true, true, true, true, false, false, false, false, false, false] (by kernel_rfl) (by kernel_rfl) (by kernel_rfl) (EO.append hS 66 66 3 8 3 (Kd.int .i64) a7 a8 a6 rfl (some ⟨b4, 0, none⟩) 1 a9 (Rd.own 1 3 rfl) a5 b7 (fun q4 x4 => Ass.deep 94 96 kS96 f8 m4 a2 :: Ass.own 3 (Kd.int .i64) (some ⟨b4, 0, none⟩) 1 a9 :: Ass.box 91 a1 [.slice b2 b1.length b3, .slice a7 a6.length a8] :: Ass.own 3 (Kd.int .i64) q4 x4 a5 :: os) 34 (by kernel_rfl) (by kernel_rfl) (by kernel_rfl) (by kernel_rfl) b6 (fun _ _ => rfl) ?_)
        intro q4 x4 w hS
        have hC : Core B [] [Ro.sl (Kd.int .i64) (some a4) a3 a0, Ro.sl (Kd.int .i64) A12 C13 l11] _ := ⟨_, _, hS⟩
        refine ⟨hC, ?_⟩
        refine ED.quick hN hF hC [17, 18] [3, 12, 13, 14, 19, 25, 34, 36] 4 [(3, .pointer (some ⟨a1, 0, none⟩)), (12, .slice (some a4) a0.length a3), (13, .int .i64 (a0.length : Int)), (14, .int .i64 b0), (19, .pointer (some ⟨a1, 0, none⟩)), (25, .slice f8 a2.length m4), (34, .slice q4 a5.length x4), (36, .pointer (some ⟨a1, 0, none⟩))] #[true, true, true, true, true, true, true, true, true, true, true, true, true, true, true, true, true, true, true, false, false, false, false] (by kernel_rfl) (by kernel_rfl) ?_
        refine ED.one 19 3 #[true, true, true, true, true, true, true, true, true, true, true, true, true, true, true, true, true, true, true, true, false, false, false] (by kernel_rfl) (by kernel_rfl) (by kernel_rfl) (EO.storeBox (os' := Ass.deep 94 96 kS96 f8 m4 a2 :: Ass.own 3 (Kd.int .i64) (some ⟨b4, 0, none⟩) 1 a9 :: Ass.box 91 a1 [.slice f8 a2.length m4, .slice a7 a6.length a8] :: Ass.own 3 (Kd.int .i64) q4 x4 a5 :: os) hS 2 rfl 89 0 (.slice f8 a2.length m4) [.slice f8 a2.length m4, .slice a7 a6.length a8] (by kernel_rfl) (by kernel_rfl) (by kernel_rfl) (by kernel_rfl) (by kernel_rfl) (by kernel_rfl) rfl rfl ?_)
        intro w hS
        have hC : Core B [] [Ro.sl (Kd.int .i64) (some a4) a3 a0, Ro.sl (Kd.int .i64) A12 C13 l11] _ := ⟨_, _, hS⟩
        refine ⟨hC, ?_⟩
        refine ED.quick hN hF hC [20, 21] [3, 12, 13, 14, 34, 38] 1 [(3, .pointer (some ⟨a1, 0, none⟩)), (12, .slice (some a4) a0.length a3), (13, .int .i64 (a0.length : Int)), (14, .int .i64 b0), (34, .slice q4 a5.length x4), (38, .pointer (some ⟨a1, 1, none⟩))] #[true, true, true, true, true, true, true, true, true, true, true, true, true, true, true, true, true, true, true, true, true, true, false] (by kernel_rfl) (by kernel_rfl) ?_
        refine ED.one 22 0 #[true, true, true, true, true, true, true, true, true, true, true, true, true, true, true, true, true, true, true, true, true, true, true] (by kernel_rfl) (by kernel_rfl) (by kernel_rfl) (EO.storeBox (os' := Ass.deep 94 96 kS96 f8 m4 a2 :: Ass.own 3 (Kd.int .i64) (some ⟨b4, 0, none⟩) 1 a9 :: Ass.box 91 a1 [.slice f8 a2.length m4, .slice q4 a5.length x4] :: Ass.own 3 (Kd.int .i64) q4 x4 a5 :: os) hS 2 rfl 66 1 (.slice q4 a5.length x4) [.slice f8 a2.length m4, .slice q4 a5.length x4] (by kernel_rfl) (by kernel_rfl) (by kernel_rfl) (by kernel_rfl) (by kernel_rfl) (by kernel_rfl) rfl rfl ?_)
        intro w hS
        have hC : Core B [] [Ro.sl (Kd.int .i64) (some a4) a3 a0, Ro.sl (Kd.int .i64) A12 C13 l11] _ := ⟨_, _, hS⟩
        refine ⟨hC, ?_⟩
        refine ED.done (by kernel_rfl) ?_
        refine EQ.to ?_
        refine EQ.keep [3, 12, 13, 14] [(3, .pointer (some ⟨a1, 0, none⟩)), (12, .slice (some a4) a0.length a3), (13, .int .i64 (a0.length : Int)), (14, .int .i64 b0)] (by kernel_rfl) ?_
        exact fun a ha => ⟨(some ⟨b4, 0, none⟩), 1, f8, m4, q4, x4, ha, (hS.re [3, 3, 2, 3] [] rfl (sub_cons 0 rfl (sub_cons 1 rfl (sub_tail (sub_tail (sub_self))))))⟩
       ·refine EO.Y (YO.loadBox hS 3 rfl 66 1 1 (.slice a7 a6.length a8) 29 (by kernel_rfl) (by kernel_rfl) (by kernel_rfl) (by kernel_rfl)) ?_
        have hC : Core B [] [Ro.sl (Kd.int .i64) (some a4) a3 a0, Ro.sl (Kd.int .i64) A12 C13 l11] _ := ⟨_, _, hS⟩
        refine ⟨hC, ?_⟩
        refine ED.at' #[true, true, true, true, true, true, true, false, true, true, true, true, true, true, true, true, false, false, false, false, false, false, false] (by kernel_rfl) ?_
        have hS := St.as (os' := Ass.deep 94 96 kS96 (some ⟨B4, 0, none⟩) 1 ([([] : List S96)] : List (List S96)) :: Ass.own 3 (Kd.int .i64) (some ⟨b4, 0, none⟩) 1 a9 :: Ass.box 91 a1 [.slice b2 b1.length b3, .slice a7 a6.length a8] :: Ass.deep 94 96 kS96 b2 b3 b1 :: Ass.own 3 (Kd.int .i64) a7 a8 a6 :: os) (St.fold (B := B) (os := _) (rs := _) (et := 94) (et' := 96) (K := kS96) (hs := [(none, ([] : List S96).length, 0)]) (xs := ([([] : List S96)] : List (List S96))) ⟨rfl, trivial⟩ (St.re hS [0, 1] [] rfl sub_self)) rfl
        refine ED.one 7 7 #[true, true, true, true, true, true, true, true, true, true, true, true, true, true, true, true, false, false, false, false, false, false, false] (by kernel_rfl) (by kernel_rfl) (by kernel_rfl) (EO.appendDeep hS 89 89 24 3 0 kS96 b2 b3 b1 rfl (some ⟨B4, 0, none⟩) 1 ([([] : List S96)] : List (List S96)) rfl a2 b9 (fun f9 m5 => Ass.deep 94 96 kS96 f9 m5 a2 :: Ass.own 3 (Kd.int .i64) (some ⟨b4, 0, none⟩) 1 a9 :: Ass.box 91 a1 [.slice b2 b1.length b3, .slice a7 a6.length a8] :: Ass.own 3 (Kd.int .i64) a7 a8 a6 :: os) 25 (by kernel_rfl) (by kernel_rfl) (by kernel_rfl) (by kernel_rfl) b8 (fun _ _ => rfl) ?_)
        intro f9 m5 w hS
        have hC : Core B [] [Ro.sl (Kd.int .i64) (some a4) a3 a0, Ro.sl (Kd.int .i64) A12 C13 l11] _ := ⟨_, _, hS⟩
        refine ⟨hC, ?_⟩
        refine ED.one 16 6 #[true, true, true, true, true, true, true, true, true, true, true, true, true, true, true, true, true, false, false, false, false, false, false] (by kernel_rfl) (by kernel_rfl) (by kernel_rfl) (EO.append hS 66 66 3 8 3 (Kd.int .i64) a7 a8 a6 rfl (some ⟨b4, 0, none⟩) 1 a9 (Rd.own 1 3 rfl) a5 b7 (fun q5 x5 => Ass.deep 94 96 kS96 f9 m5 a2 :: Ass.own 3 (Kd.int .i64) (some ⟨b4, 0, none⟩) 1 a9 :: Ass.box 91 a1 [.slice b2 b1.length b3, .slice a7 a6.length a8] :: Ass.own 3 (Kd.int .i64) q5 x5 a5 :: os) 34 (by kernel_rfl) (by kernel_rfl) (by kernel_rfl) (by kernel_rfl) b6 (fun _ _ => rfl) ?_)
        intro q5 x5 w hS
        have hC : Core B [] [Ro.sl (Kd.int .i64) (some a4) a3 a0, Ro.sl (Kd.int .i64) A12 C13 l11] _ := ⟨_, _, hS⟩
        refine ⟨hC, ?_⟩
        refine ED.quick hN hF hC [17, 18] [3, 12, 13, 14, 19, 25, 34, 36] 4 [(3, .pointer (some ⟨a1, 0, none⟩)), (12, .slice (some a4) a0.length a3), (13, .int .i64 (a0.length : Int)), (14, .int .i64 b0), (19, .pointer (some ⟨a1, 0, none⟩)), (25, .slice f9 a2.length m5), (34, .slice q5 a5.length x5), (36, .pointer (some ⟨a1, 0, none⟩))] #[true, true, true, true, true, true, true, true, true, true, true, true, true, true, true, true, true, true, true, false, false, false, false] (by kernel_rfl) (by kernel_rfl) ?_
        refine ED.one 19 3 #[true, true, true, true, true, true, true, true, true, true, true, true, true, true, true, true, true, true, true, true, false, false, false] (by kernel_rfl) (by kernel_rfl) (by kernel_rfl) (EO.storeBox (os' := Ass.deep 94 96 kS96 f9 m5 a2 :: Ass.own 3 (Kd.int .i64) (some ⟨b4, 0, none⟩) 1 a9 :: Ass.box 91 a1 [.slice f9 a2.length m5, .slice a7 a6.length a8] :: Ass.own 3 (Kd.int .i64) q5 x5 a5 :: os) hS 2 rfl 89 0 (.slice f9 a2.length m5) [.slice f9 a2.length m5, .slice a7 a6.length a8] (by kernel_rfl) (by kernel_rfl) (by kernel_rfl) (by kernel_rfl) (by kernel_rfl) (by kernel_rfl) rfl rfl ?_)
        intro w hS
        have hC : Core B [] [Ro.sl (Kd.int .i64) (some a4) a3 a0, Ro.sl (Kd.int .i64) A12 C13 l11] _ := ⟨_, _, hS⟩
        refine ⟨hC, ?_⟩
        refine ED.quick hN hF hC [20, 21] [3, 12, 13, 14, 34, 38] 1 [(3, .pointer (some ⟨a1, 0, none⟩)), (12, .slice (some a4) a0.length a3), (13, .int .i64 (a0.length : Int)), (14, .int .i64 b0), (34, .slice q5 a5.length x5), (38, .pointer (some ⟨a1, 1, none⟩))] #[true, true, true, true, true, true, true, true, true, true, true, true, true, true, true, true, true, true, true, true, true, true, false] (by kernel_rfl) (by kernel_rfl) ?_
        refine ED.one 22 0 #[true, true, true, true, true, true, true, true, true, true, true, true, true, true, true, true, true, true, true, true, true, true, true] (by kernel_rfl) (by kernel_rfl) (by kernel_rfl) (EO.storeBox (os' := Ass.deep 94 96 kS96 f9 m5 a2 :: Ass.own 3 (Kd.int .i64) (some ⟨b4, 0, none⟩) 1 a9 :: Ass.box 91 a1 [.slice f9 a2.length m5, .slice q5 a5.length x5] :: Ass.own 3 (Kd.int .i64) q5 x5 a5 :: os) hS 2 rfl 66 1 (.slice q5 a5.length x5) [.slice f9 a2.length m5, .slice q5 a5.length x5] (by kernel_rfl) (by kernel_rfl) (by kernel_rfl) (by kernel_rfl) (by kernel_rfl) (by kernel_rfl) rfl rfl ?_)
        intro w hS
        have hC : Core B [] [Ro.sl (Kd.int .i64) (some a4) a3 a0, Ro.sl (Kd.int .i64) A12 C13 l11] _ := ⟨_, _, hS⟩
        refine ⟨hC, ?_⟩
        refine ED.done (by kernel_rfl) ?_
        refine EQ.to ?_
        refine EQ.keep [3, 12, 13, 14] [(3, .pointer (some ⟨a1, 0, none⟩)), (12, .slice (some a4) a0.length a3), (13, .int .i64 (a0.length : Int)), (14, .int .i64 b0)] (by kernel_rfl) ?_
        exact fun a ha => ⟨(some ⟨b4, 0, none⟩), 1, f9, m5, q5, x5, ha, (hS.re [3, 3, 2, 3] [] rfl (sub_cons 0 rfl (sub_cons 1 rfl (sub_tail (sub_tail (sub_self))))))⟩
      ·refine EO.Y (YO.loadBox hS 1 rfl 66 1 1 (.slice a7 a6.length a8) 29 (by kernel_rfl) (by kernel_rfl) (by kernel_rfl) (by kernel_rfl)) ?_
       have hC : Core B [] [Ro.sl (Kd.int .i64) (some a4) a3 a0, Ro.sl (Kd.int .i64) A12 C13 l11] _ := ⟨_, _, hS⟩
       refine ⟨hC, ?_⟩
       refine ED.at' #[true, true, true, true, true, true, false, false, true, true, true, true, true, true, true, true, false, false, false, false, false, false, false] (by kernel_rfl) ?_
       refine ED.one 6 8 #[true, true, true, true, true, true, true, false, true, true, true, true, true, true, true, true, false, false, false, false, false, false, false] (by kernel_rfl) (by kernel_rfl) (by kernel_rfl) (EO.lit (xs := ([(none, ([] : List S96).length, 0)] : List Hdr)) hS Kd.hdr 94 89 1 #[(0, .slice none ([] : List S96).length 0)] [.slice none ([] : List S96).length 0] 24 (by kernel_rfl) (by kernel_rfl) (by kernel_rfl) (fun _ => (by kernel_rfl)) rfl (by kernel_rfl) (fun w G hr => ⟨[.slice none ([] : List S96).length 0], [], rfl, rfl, rfl⟩) ?_)
       intro D0 w hS
       have hS := St.nilO hS 96 kS96
       have hC : Core B [] [Ro.sl (Kd.int .i64) (some a4) a3 a0, Ro.sl (Kd.int .i64) A12 C13 l11] _ := ⟨_, _, hS⟩
       refine ⟨hC, ?_⟩
       have hS := St.as (os' := Ass.deep 94 96 kS96 (some ⟨D0, 0, none⟩) 1 ([([] : List S96)] : List (List S96)) :: Ass.own 3 (Kd.int .i64) (some ⟨b4, 0, none⟩) 1 a9 :: Ass.box 91 a1 [.slice b2 b1.length b3, .slice a7 a6.length a8] :: Ass.deep 94 96 kS96 b2 b3 b1 :: Ass.own 3 (Kd.int .i64) a7 a8 a6 :: os) (St.fold (B := B) (os := _) (rs := _) (et := 94) (et' := 96) (K := kS96) (hs := [(none, ([] : List S96).length, 0)]) (xs := ([([] : List S96)] : List (List S96))) ⟨rfl, trivial⟩ (St.re hS [0, 1] [] rfl sub_self)) rfl
       refine ED.one 7 7 #[true, true, true, true, true, true, true, true, true, true, true, true, true, true, true, true, false, false, false, false, false, false, false] (by kernel_rfl) (by kernel_rfl) (by kernel_rfl) (EO.appendDeep hS 89 89 24 3 0 kS96 b2 b3 b1 rfl (some ⟨D0, 0, none⟩) 1 ([([] : List S96)] : List (List S96)) rfl a2 b9 (fun g0 m6 => Ass.deep 94 96 kS96 g0 m6 a2 :: Ass.own 3 (Kd.int .i64) (some ⟨b4, 0, none⟩) 1 a9 :: Ass.box 91 a1 [.slice b2 b1.length b3, .slice a7 a6.length a8] :: Ass.own 3 (Kd.int .i64) a7 a8 a6 :: os) 25 (by kernel_rfl) (by kernel_rfl) (by kernel_rfl) (by kernel_rfl) b8 (fun _ _ => rfl) ?_)
       intro g0 m6 w hS
       have hC : Core B [] [Ro.sl (Kd.int .i64) (some a4) a3 a0, Ro.sl (Kd.int .i64) A12 C13 l11] _ := ⟨_, _, hS⟩
       refine ⟨hC, ?_⟩
       refine ED.one 16 6 #[true, true, true, true, true, true, true, true, true, true, true, true, true, true, true, true, true, false, false, false, false, false, false] (by kernel_rfl) (by kernel_rfl) (by kernel_rfl) (EO.append hS 66 66 3 8 3 (Kd.int .i64) a7 a8 a6 rfl (some ⟨b4, 0, none⟩) 1 a9 (Rd.own 1 3 rfl) a5 b7 (fun q6 x6 => Ass.deep 94 96 kS96 g0 m6 a2 :: Ass.own 3 (Kd.int .i64) (some ⟨b4, 0, none⟩) 1 a9 :: Ass.box 91 a1 [.slice b2 b1.length b3, .slice a7 a6.length a8] :: Ass.own 3 (Kd.int .i64) q6 x6 a5 :: os) 34 (by kernel_rfl) (by kernel_rfl) (by kernel_rfl) (by kernel_rfl) b6 (fun _ _ => rfl) ?_)
       intro q6 x6 w hS
       have hC : Core B [] [Ro.sl (Kd.int .i64) (some a4) a3 a0, Ro.sl (Kd.int .i64) A12 C13 l11] _ := ⟨_, _, hS⟩
       refine ⟨hC, ?_⟩
       refine ED.quick hN hF hC [17, 18] [3, 12, 13, 14, 19, 25, 34, 36] 4 [(3, .pointer (some ⟨a1, 0, none⟩)), (12, .slice (some a4) a0.length a3), (13, .int .i64 (a0.length : Int)), (14, .int .i64 b0), (19, .pointer (some ⟨a1, 0, none⟩)), (25, .slice g0 a2.length m6), (34, .slice q6 a5.length x6), (36, .pointer (some ⟨a1, 0, none⟩))] #[true, true, true, true, true, true, true, true, true, true, true, true, true, true, true, true, true, true, true, false, false, false, false] (by kernel_rfl) (by kernel_rfl) ?_
       refine ED.one 19 3 #[true, true, true, true, true, true, true, true, true, true, true, true, true, true, true, true, true, true, true, true, false, false, false] (by kernel_rfl) (by kernel_rfl) (by kernel_rfl) (EO.storeBox (os' := Ass.deep 94 96 kS96 g0 m6 a2 :: Ass.own 3 (Kd.int .i64) (some ⟨b4, 0, none⟩) 1 a9 :: Ass.box 91 a1 [.slice g0 a2.length m6, .slice a7 a6.length a8] :: Ass.own 3 (Kd.int .i64) q6 x6 a5 :: os) hS 2 rfl 89 0 (.slice g0 a2.length m6) [.slice g0 a2.length m6, .slice a7 a6.length a8] (by kernel_rfl) (by kernel_rfl) (by kernel_rfl) (by kernel_rfl) (by kernel_rfl) (by kernel_rfl) rfl rfl ?_)
       intro w hS
       have hC : Core B [] [Ro.sl (Kd.int .i64) (some a4) a3 a0, Ro.sl (Kd.int .i64) A12 C13 l11] _ := ⟨_, _, hS⟩
       refine ⟨hC, ?_⟩
       refine ED.quick hN hF hC [20, 21] [3, 12, 13, 14, 34, 38] 1 [(3, .pointer (some ⟨a1, 0, none⟩)), (12, .slice (some a4) a0.length a3), (13, .int .i64 (a0.length : Int)), (14, .int .i64 b0), (34, .slice q6 a5.length x6), (38, .pointer (some ⟨a1, 1, none⟩))] #[true, true, true, true, true, true, true, true, true, true, true, true, true, true, true, true, true, true, true, true, true, true, false] (by kernel_rfl) (by kernel_rfl) ?_
       refine ED.one 22 0 #[true, true, true, true, true, true, true, true, true, true, true, true, true, true, true, true, true, true, true, true, true, true, true] (by kernel_rfl) (by kernel_rfl) (by kernel_rfl) (EO.storeBox (os' := Ass.deep 94 96 kS96 g0 m6 a2 :: Ass.own 3 (Kd.int .i64) (some ⟨b4, 0, none⟩) 1 a9 :: Ass.box 91 a1 [.slice g0 a2.length m6, .slice q6 a5.length x6] :: Ass.own 3 (Kd.int .i64) q6 x6 a5 :: os) hS 2 rfl 66 1 (.slice q6 a5.length x6) [.slice g0 a2.length m6, .slice q6 a5.length x6] (by kernel_rfl) (by kernel_rfl) (by kernel_rfl) (by kernel_rfl) (by kernel_rfl) (by kernel_rfl) rfl rfl ?_)
       intro w hS
       have hC : Core B [] [Ro.sl (Kd.int .i64) (some a4) a3 a0, Ro.sl (Kd.int .i64) A12 C13 l11] _ := ⟨_, _, hS⟩
       refine ⟨hC, ?_⟩
       refine ED.done (by kernel_rfl) ?_
       refine EQ.to ?_
       refine EQ.keep [3, 12, 13, 14] [(3, .pointer (some ⟨a1, 0, none⟩)), (12, .slice (some a4) a0.length a3), (13, .int .i64 (a0.length : Int)), (14, .int .i64 b0)] (by kernel_rfl) ?_
       exact fun a ha => ⟨(some ⟨b4, 0, none⟩), 1, g0, m6, q6, x6, ha, (hS.re [3, 3, 2, 3] [] rfl (sub_cons 0 rfl (sub_cons 1 rfl (sub_tail (sub_tail (sub_self))))))⟩
     ·refine EO.lit (xs := ([(none, ([] : List S96).length, 0)] : List Hdr)) hS Kd.hdr 94 89 1 #[(0, .slice none ([] : List S96).length 0)] [.slice none ([] : List S96).length 0] 24 (by kernel_rfl) (by kernel_rfl) (by kernel_rfl) (fun _ => (by kernel_rfl)) rfl (by kernel_rfl) (fun w G hr => ⟨[.slice none ([] : List S96).length 0], [], rfl, rfl, rfl⟩) ?_
      intro z4 w hS
      have hS := St.nilO hS 96 kS96
      have hC : Core B [] [Ro.sl (Kd.int .i64) (some a4) a3 a0, Ro.sl (Kd.int .i64) A12 C13 l11] _ := ⟨_, _, hS⟩
      refine ⟨hC, ?_⟩
      refine ED.at' #[true, true, true, true, true, false, true, false, true, true, true, false, true, true, true, true, false, false, false, false, false, false, false] (by kernel_rfl) ?_
      refine ED.two 5 11 9 (by kernel_rfl) (by kernel_rfl) ?_ ?_
      ·refine EO.Y (YO.loadBox hS 3 rfl 89 0 1 (.slice b2 b1.length b3) 23 (by kernel_rfl) (by kernel_rfl) (by kernel_rfl) (by kernel_rfl)) ?_
       have hC : Core B [] [Ro.sl (Kd.int .i64) (some a4) a3 a0, Ro.sl (Kd.int .i64) A12 C13 l11] _ := ⟨_, _, hS⟩
       refine ⟨hC, ?_⟩
       refine ED.at' #[true, true, true, true, true, true, true, false, true, true, true, false, true, true, true, true, false, false, false, false, false, false, false] (by kernel_rfl) ?_
       refine ED.two 7 11 8 (by kernel_rfl) (by kernel_rfl) ?_ ?_
       ·have hS := St.as (os' := Ass.deep 94 96 kS96 (some ⟨z4, 0, none⟩) 1 ([([] : List S96)] : List (List S96)) :: Ass.own 3 (Kd.int .i64) (some ⟨b4, 0, none⟩) 1 a9 :: Ass.box 91 a1 [.slice b2 b1.length b3, .slice a7 a6.length a8] :: Ass.deep 94 96 kS96 b2 b3 b1 :: Ass.own 3 (Kd.int .i64) a7 a8 a6 :: os) (St.fold (B := B) (os := _) (rs := _) (et := 94) (et' := 96) (K := kS96) (hs := [(none, ([] : List S96).length, 0)]) (xs := ([([] : List S96)] : List (List S96))) ⟨rfl, trivial⟩ (St.re hS [0, 1] [] rfl sub_self)) rfl
        refine EO.appendDeep hS 89 89 24 3 0 kS96 b2 b3 b1 rfl (some ⟨z4, 0, none⟩) 1 ([([] : List S96)] : List (List S96)) rfl a2 b9 (fun g1 m7 => Ass.deep 94 96 kS96 g1 m7 a2 :: Ass.own 3 (Kd.int .i64) (some ⟨b4, 0, none⟩) 1 a9 :: Ass.box 91 a1 [.slice b2 b1.length b3, .slice a7 a6.length a8] :: Ass.own 3 (Kd.int .i64) a7 a8 a6 :: os) 25 (by kernel_rfl) (by kernel_rfl) (by kernel_rfl) (by kernel_rfl) b8 (fun _ _ => rfl) ?_
        intro g1 m7 w hS
        have hC : Core B [] [Ro.sl (Kd.int .i64) (some a4) a3 a0, Ro.sl (Kd.int .i64) A12 C13 l11] _ := ⟨_, _, hS⟩
        refine ⟨hC, ?_⟩
        refine ED.at' #[true, true, true, true, true, true, true, true, true, true, true, false, true, true, true, true, false, false, false, false, false, false, false] (by kernel_rfl) ?_
        refine ED.one 11 7 #[true, true, true, true, true, true, true, true, true, true, true, true, true, true, true, true, false, false, false, false, false, false, false] (by kernel_rfl) (by kernel_rfl) (by kernel_rfl) (EO.Y (YO.loadBox hS 2 rfl 66 1 1 (.slice a7 a6.length a8) 29 (by kernel_rfl) (by kernel_rfl) (by kernel_rfl) (by kernel_rfl)) ?_)
        have hC : Core B [] [Ro.sl (Kd.int .i64) (some a4) a3 a0, Ro.sl (Kd.int .i64) A12 C13 l11] _ := ⟨_, _, hS⟩
        refine ⟨hC, ?_⟩
        refine ED.one 16 6 #[true, true, true, true, true, true, true, true, true, true, true, true, true, true, true, true, true, false, false, false, false, false, false] (by kernel_rfl) (by kernel_rfl) (by kernel_rfl) (EO.append hS 66 66 3 8 3 (Kd.int .i64) a7 a8 a6 rfl (some ⟨b4, 0, none⟩) 1 a9 (Rd.own 1 3 rfl) a5 b7 (fun q7 x7 => Ass.deep 94 96 kS96 g1 m7 a2 :: Ass.own 3 (Kd.int .i64) (some ⟨b4, 0, none⟩) 1 a9 :: Ass.box 91 a1 [.slice b2 b1.length b3, .slice a7 a6.length a8] :: Ass.own 3 (Kd.int .i64) q7 x7 a5 :: os) 34 (by kernel_rfl) (by kernel_rfl) (by kernel_rfl) (by kernel_rfl) b6 (fun _ _ => rfl) ?_)
        intro q7 x7 w hS
        have hC : Core B [] [Ro.sl (Kd.int .i64) (some a4) a3 a0, Ro.sl (Kd.int .i64) A12 C13 l11] _ := ⟨_, _, hS⟩
        refine ⟨hC, ?_⟩
        refine ED.quick hN hF hC [17, 18] [3, 12, 13, 14, 19, 25, 34, 36] 4 [(3, .pointer (some ⟨a1, 0, none⟩)), (12, .slice (some a4) a0.length a3), (13, .int .i64 (a0.length : Int)), (14, .int .i64 b0), (19, .pointer (some ⟨a1, 0, none⟩)), (25, .slice g1 a2.length m7), (34, .slice q7 a5.length x7), (36, .pointer (some ⟨a1, 0, none⟩))] #[true, true, true, true, true, true, true, true, true, true, true, true, true, true, true, true, true, true, true, false, false, false, false] (by kernel_rfl) (by kernel_rfl) ?_
        refine ED.one 19 3 #[true, true, true, true, true, true, true, true, true, true, true, true, true, true, true, true, true, true, true, true, false, false, false] (by kernel_rfl) (by kernel_rfl) (by kernel_rfl) (EO.storeBox (os' := Ass.deep 94 96 kS96 g1 m7 a2 :: Ass.own 3 (Kd.int .i64) (some ⟨b4, 0, none⟩) 1 a9 :: Ass.box 91 a1 [.slice g1 a2.length m7, .slice a7 a6.length a8] :: Ass.own 3 (Kd.int .i64) q7 x7 a5 :: os) hS 2 rfl 89 0 (.slice g1 a2.length m7) [.slice g1 a2.length m7, .slice a7 a6.length a8] (by kernel_rfl) (by kernel_rfl) (by kernel_rfl) (by kernel_rfl) (by kernel_rfl) (by kernel_rfl) rfl rfl ?_)
        intro w hS
        have hC : Core B [] [Ro.sl (Kd.int .i64) (some a4) a3 a0, Ro.sl (Kd.int .i64) A12 C13 l11] _ := ⟨_, _, hS⟩
        refine ⟨hC, ?_⟩
        refine ED.quick hN hF hC [20, 21] [3, 12, 13, 14, 34, 38] 1 [(3, .pointer (some ⟨a1, 0, none⟩)), (12, .slice (some a4) a0.length a3), (13, .int .i64 (a0.length : Int)), (14, .int .i64 b0), (34, .slice q7 a5.length x7), (38, .pointer (some ⟨a1, 1, none⟩))] #[true, true, true, true, true, true, true, true, true, true, true, true, true, true, true, true, true, true, true, true, true, true, false] (by kernel_rfl) (by kernel_rfl) ?_
        refine ED.one 22 0 #[true, true, true, true, true, true, true, true, true, true, true, true, true, true, true, true, true, true, true, true, true, true, true] (by kernel_rfl) (by kernel_rfl) (by kernel_rfl) (EO.storeBox (os' := Ass.deep 94 96 kS96 g1 m7 a2 :: Ass.own 3 (Kd.int .i64) (some ⟨b4, 0, none⟩) 1 a9 :: Ass.box 91 a1 [.slice g1 a2.length m7, .slice q7 a5.length x7] :: Ass.own 3 (Kd.int .i64) q7 x7 a5 :: os) hS 2 rfl 66 1 (.slice q7 a5.length x7) [.slice g1 a2.length m7, .slice q7 a5.length x7] (by kernel_rfl) (by kernel_rfl) (by kernel_rfl) (by kernel_rfl) (by kernel_rfl) (by kernel_rfl) rfl rfl ?_)
        intro w hS
        have hC : Core B [] [Ro.sl (Kd.int .i64) (some a4) a3 a0, Ro.sl (Kd.int .i64) A12 C13 l11] _ := ⟨_, _, hS⟩
        refine ⟨hC, ?_⟩
        refine ED.done (by kernel_rfl) ?_
        refine EQ.to ?_
        refine EQ.keep [3, 12, 13, 14] [(3, .pointer (some ⟨a1, 0, none⟩)), (12, .slice (some a4) a0.length a3), (13, .int .i64 (a0.length : Int)), (14, .int .i64 b0)] (by kernel_rfl) ?_
        exact fun a ha => ⟨(some ⟨b4, 0, none⟩), 1, g1, m7, q7, x7, ha, (hS.re [3, 3, 2, 3] [] rfl (sub_cons 0 rfl (sub_cons 1 rfl (sub_tail (sub_tail (sub_self))))))⟩
       ·refine EO.Y (YO.loadBox hS 3 rfl 66 1 1 (.slice a7 a6.length a8) 29 (by kernel_rfl) (by kernel_rfl) (by kernel_rfl) (by kernel_rfl)) ?_
        have hC : Core B [] [Ro.sl (Kd.int .i64) (some a4) a3 a0, Ro.sl (Kd.int .i64) A12 C13 l11] _ := ⟨_, _, hS⟩
        refine ⟨hC, ?_⟩
        refine ED.at' #[true, true, true, true, true, true, true, false, true, true, true, true, true, true, true, true, false, false, false, false, false, false, false] (by kernel_rfl) ?_
        have hS := St.as (os' := Ass.deep 94 96 kS96 (some ⟨z4, 0, none⟩) 1 ([([] : List S96)] : List (List S96)) :: Ass.own 3 (Kd.int .i64) (some ⟨b4, 0, none⟩) 1 a9 :: Ass.box 91 a1 [.slice b2 b1.length b3, .slice a7 a6.length a8] :: Ass.deep 94 96 kS96 b2 b3 b1 :: Ass.own 3 (Kd.int .i64) a7 a8 a6 :: os) (St.fold (B := B) (os := _) (rs := _) (et := 94) (et' := 96) (K := kS96) (hs := [(none, ([] : List S96).length, 0)]) (xs := ([([] : List S96)] : List (List S96))) ⟨rfl, trivial⟩ (St.re hS [0, 1] [] rfl sub_self)) rfl
        refine ED.one 7 7 #[true, true, true, true, true, true, true, true, true, true, true, true, true, true, true, true, false, false, false, false, false, false, false] (by kernel_rfl) (by kernel_rfl) (by kernel_rfl) (EO.appendDeep hS 89 89 24 3 0 kS96 b2 b3 b1 rfl (some ⟨z4, 0, none⟩) 1 ([([] : List S96)] : List (List S96)) rfl a2 b9 (fun g2 m8 => Ass.deep 94 96 kS96 g2 m8 a2 :: Ass.own 3 (Kd.int .i64) (some ⟨b4, 0, none⟩) 1 a9 :: Ass.box 91 a1 [.slice b2 b1.length b3, .slice a7 a6.length a8] :: Ass.own 3 (Kd.int .i64) a7 a8 a6 :: os) 25 (by kernel_rfl) (by kernel_rfl) (by kernel_rfl) (by kernel_rfl) b8 (fun _ _ => rfl) ?_)
        intro g2 m8 w hS
        have hC : Core B [] [Ro.sl (Kd.int .i64) (some a4) a3 a0, Ro.sl (Kd.int .i64) A12 C13 l11] _ := ⟨_, _, hS⟩
        refine ⟨hC, ?_⟩
        refine ED.one 16 6 #[true, true, true, true, true, true, true, true, true, true, true, true, true, true, true, true, true, false, false, false, false, false, false] (by kernel_rfl) (by kernel_rfl) (by kernel_rfl) (EO.append hS 66 66 3 8 3 (Kd.int .i64) a7 a8 a6 rfl (some ⟨b4, 0, none⟩) 1 a9 (Rd.own 1 3 rfl) a5 b7 (fun q8 x8 => Ass.deep 94 96 kS96 g2 m8 a2 :: Ass.own 3 (Kd.int .i64) (some ⟨b4, 0, none⟩) 1 a9 :: Ass.box 91 a1 [.slice b2 b1.length b3, .slice a7 a6.length a8] :: Ass.own 3 (Kd.int .i64) q8 x8 a5 :: os) 34 (by kernel_rfl) (by kernel_rfl) (by kernel_rfl) (by kernel_rfl) b6 (fun _ _ => rfl) ?_)
        intro q8 x8 w hS
        have hC : Core B [] [Ro.sl (Kd.int .i64) (some a4) a3 a0, Ro.sl (Kd.int .i64) A12 C13 l11] _ := ⟨_, _, hS⟩
        refine ⟨hC, ?_⟩
        refine ED.quick hN hF hC [17, 18] [3, 12, 13, 14, 19, 25, 34, 36] 4 [(3, .pointer (some ⟨a1, 0, none⟩)), (12, .slice (some a4) a0.length a3), (13, .int .i64 (a0.length : Int)), (14, .int .i64 b0), (19, .pointer (some ⟨a1, 0, none⟩)), (25, .slice g2 a2.length m8), (34, .slice q8 a5.length x8), (36, .pointer (some ⟨a1, 0, none⟩))] #[true, true, true, true, true, true, true, true, true, true, true, true, true, true, true, true, true, true, true, false, false, false, false] (by kernel_rfl) (by kernel_rfl) ?_
        refine ED.one 19 3 #[true, true, true, true, true, true, true, true, true, true, true, true, true, true, true, true, true, true, true, true, false, false, false] (by kernel_rfl) (by kernel_rfl) (by kernel_rfl) (EO.storeBox (os' := Ass.deep 94 96 kS96 g2 m8 a2 :: Ass.own 3 (Kd.int .i64) (some ⟨b4, 0, none⟩) 1 a9 :: Ass.box 91 a1 [.slice g2 a2.length m8, .slice a7 a6.length a8] :: Ass.own 3 (Kd.int .i64) q8 x8 a5 :: os) hS 2 rfl 89 0 (.slice g2 a2.length m8) [.slice g2 a2.length m8, .slice a7 a6.length a8] (by kernel_rfl) (by kernel_rfl) (by kernel_rfl) (by kernel_rfl) (by kernel_rfl) (by kernel_rfl) rfl rfl ?_)
        intro w hS
        have hC : Core B [] [Ro.sl (Kd.int .i64) (some a4) a3 a0, Ro.sl (Kd.int .i64) A12 C13 l11] _ := ⟨_, _, hS⟩
        refine ⟨hC, ?_⟩
        refine ED.quick hN hF hC [20, 21] [3, 12, 13, 14, 34, 38] 1 [(3, .pointer (some ⟨a1, 0, none⟩)), (12, .slice (some a4) a0.length a3), (13, .int .i64 (a0.length : Int)), (14, .int .i64 b0), (34, .slice q8 a5.length x8), (38, .pointer (some ⟨a1, 1, none⟩))] #[true, true, true, true, true, true, true, true, true, true, true, true, true, true, true, true, true, true, true, true, true, true, false] (by kernel_rfl) (by kernel_rfl) ?_
        refine ED.one 22 0 #[true, true, true, true, true, true, true, true, true, true, true, true, true, true, true, true, true, true, true, true, true, true, true] (by kernel_rfl) (by kernel_rfl) (by kernel_rfl) (EO.storeBox (os' := Ass.deep 94 96 kS96 g2 m8 a2 :: Ass.own 3 (Kd.int .i64) (some ⟨b4, 0, none⟩) 1 a9 :: Ass.box 91 a1 [.slice g2 a2.length m8, .slice q8 a5.length x8] :: Ass.own 3 (Kd.int .i64) q8 x8 a5 :: os) hS 2 rfl 66 1 (.slice q8 a5.length x8) [.slice g2 a2.length m8, .slice q8 a5.length x8] (by kernel_rfl) (by kernel_rfl) (by kernel_rfl) (by kernel_rfl) (by kernel_rfl) (by kernel_rfl) rfl rfl ?_)
        intro w hS
        have hC : Core B [] [Ro.sl (Kd.int .i64) (some a4) a3 a0, Ro.sl (Kd.int .i64) A12 C13 l11] _ := ⟨_, _, hS⟩
        refine ⟨hC, ?_⟩
        refine ED.done (by kernel_rfl) ?_
        refine EQ.to ?_
        refine EQ.keep [3, 12, 13, 14] [(3, .pointer (some ⟨a1, 0, none⟩)), (12, .slice (some a4) a0.length a3), (13, .int .i64 (a0.length : Int)), (14, .int .i64 b0)] (by kernel_rfl) ?_
        exact fun a ha => ⟨(some ⟨b4, 0, none⟩), 1, g2, m8, q8, x8, ha, (hS.re [3, 3, 2, 3] [] rfl (sub_cons 0 rfl (sub_cons 1 rfl (sub_tail (sub_tail (sub_self))))))⟩
      ·refine EO.Y (YO.loadBox hS 3 rfl 66 1 1 (.slice a7 a6.length a8) 29 (by kernel_rfl) (by kernel_rfl) (by kernel_rfl) (by kernel_rfl)) ?_
       have hC : Core B [] [Ro.sl (Kd.int .i64) (some a4) a3 a0, Ro.sl (Kd.int .i64) A12 C13 l11] _ := ⟨_, _, hS⟩
       refine ⟨hC, ?_⟩
       refine ED.at' #[true, true, true, true, true, false, true, false, true, true, true, true, true, true, true, true, false, false, false, false, false, false, false] (by kernel_rfl) ?_
       refine ED.one 5 8 #[true, true, true, true, true, true, true, false, true, true, true, true, true, true, true, true, false, false, false, false, false, false, false] (by kernel_rfl) (by kernel_rfl) (by kernel_rfl) (EO.Y (YO.loadBox hS 3 rfl 89 0 1 (.slice b2 b1.length b3) 23 (by kernel_rfl) (by kernel_rfl) (by kernel_rfl) (by kernel_rfl)) ?_)
       have hC : Core B [] [Ro.sl (Kd.int .i64) (some a4) a3 a0, Ro.sl (Kd.int .i64) A12 C13 l11] _ := ⟨_, _, hS⟩
       refine ⟨hC, ?_⟩
       have hS := St.as (os' := Ass.deep 94 96 kS96 (some ⟨z4, 0, none⟩) 1 ([([] : List S96)] : List (List S96)) :: Ass.own 3 (Kd.int .i64) (some ⟨b4, 0, none⟩) 1 a9 :: Ass.box 91 a1 [.slice b2 b1.length b3, .slice a7 a6.length a8] :: Ass.deep 94 96 kS96 b2 b3 b1 :: Ass.own 3 (Kd.int .i64) a7 a8 a6 :: os) (St.fold (B := B) (os := _) (rs := _) (et := 94) (et' := 96) (K := kS96) (hs := [(none, ([] : List S96).length, 0)]) (xs := ([([] : List S96)] : List (List S96))) ⟨rfl, trivial⟩ (St.re hS [0, 1] [] rfl sub_self)) rfl
       refine ED.one 7 7 #[true, true, true, true, true, true, true, true, true, true, true, true, true, true, true, true, false, false, false, false, false, false, false] (by kernel_rfl) (by kernel_rfl) (by kernel_rfl) (EO.appendDeep hS 89 89 24 3 0 kS96 b2 b3 b1 rfl (some ⟨z4, 0, none⟩) 1 ([([] : List S96)] : List (List S96)) rfl a2 b9 (fun g3 m9 => Ass.deep 94 96 kS96 g3 m9 a2 :: Ass.own 3 (Kd.int .i64) (some ⟨b4, 0, none⟩) 1 a9 :: Ass.box 91 a1 [.slice b2 b1.length b3, .slice a7 a6.length a8] :: Ass.own 3 (Kd.int .i64) a7 a8 a6 :: os) 25 (by kernel_rfl) (by kernel_rfl) (by kernel_rfl) (by kernel_rfl) b8 (fun _ _ => rfl) ?_)
       intro g3 m9 w hS
       have hC : Core B [] [Ro.sl (Kd.int .i64) (some a4) a3 a0, Ro.sl (Kd.int .i64) A12 C13 l11] _ := ⟨_, _, hS⟩
       refine ⟨hC, ?_⟩
       refine ED.one 16 6 #[true, true, true, true, true, true, true, true, true, true, true, true, true, true, true, true, true, false, false, false, false, false, false] (by kernel_rfl) (by kernel_rfl) (by kernel_rfl) (EO.append hS 66 66 3 8 3 (Kd.int .i64) a7 a8 a6 rfl (some ⟨b4, 0, none⟩) 1 a9 (Rd.own 1 3 rfl) a5 b7 (fun q9 x9 => Ass.deep 94 96 kS96 g3 m9 a2 :: Ass.own 3 (Kd.int .i64) (some ⟨b4, 0, none⟩) 1 a9 :: Ass.box 91 a1 [.slice b2 b1.length b3, .slice a7 a6.length a8] :: Ass.own 3 (Kd.int .i64) q9 x9 a5 :: os) 34 (by kernel_rfl) (by kernel_rfl) (by kernel_rfl) (by kernel_rfl) b6 (fun _ _ => rfl) ?_)
       intro q9 x9 w hS
       have hC : Core B [] [Ro.sl (Kd.int .i64) (some a4) a3 a0, Ro.sl (Kd.int .i64) A12 C13 l11] _ := ⟨_, _, hS⟩
       refine ⟨hC, ?_⟩
       refine ED.quick hN hF hC [17, 18] [3, 12, 13, 14, 19, 25, 34, 36] 4 [(3, .pointer (some ⟨a1, 0, none⟩)), (12, .slice (some a4) a0.length a3), (13, .int .i64 (a0.length : Int)), (14, .int .i64 b0), (19, .pointer (some ⟨a1, 0, none⟩)), (25, .slice g3 a2.length m9), (34, .slice q9 a5.length x9), (36, .pointer (some ⟨a1, 0, none⟩))] #[true, true, true, true, true, true, true, true, true, true, true, true, true, true, true, true, true, true, true, false, false, false, false] (by kernel_rfl) (by kernel_rfl) ?_
       refine ED.one 19 3 #[true, true, true, true, true, true, true, true, true, true, true, true, true, true, true, true, true, true, true, true, false, false, false] (by kernel_rfl) (by kernel_rfl) (by kernel_rfl) (EO.storeBox (os' := Ass.deep 94 96 kS96 g3 m9 a2 :: Ass.own 3 (Kd.int .i64) (some ⟨b4, 0, none⟩) 1 a9 :: Ass.box 91 a1 [.slice g3 a2.length m9, .slice a7 a6.length a8] :: Ass.own 3 (Kd.int .i64) q9 x9 a5 :: os) hS 2 rfl 89 0 (.slice g3 a2.length m9) [.slice g3 a2.length m9, .slice a7 a6.length a8] (by kernel_rfl) (by kernel_rfl) (by kernel_rfl) (by kernel_rfl) (by kernel_rfl) (by kernel_rfl) rfl rfl ?_)
       intro w hS
       have hC : Core B [] [Ro.sl (Kd.int .i64) (some a4) a3 a0, Ro.sl (Kd.int .i64) A12 C13 l11] _ := ⟨_, _, hS⟩
       refine ⟨hC, ?_⟩
       refine ED.quick hN hF hC [20, 21] [3, 12, 13, 14, 34, 38] 1 [(3, .pointer (some ⟨a1, 0, none⟩)), (12, .slice (some a4) a0.length a3), (13, .int .i64 (a0.length : Int)), (14, .int .i64 b0), (34, .slice q9 a5.length x9), (38, .pointer (some ⟨a1, 1, none⟩))] #[true, true, true, true, true, true, true, true, true, true, true, true, true, true, true, true, true, true, true, true, true, true, false] (by kernel_rfl) (by kernel_rfl) ?_
       refine ED.one 22 0 #[true, true, true, true, true, true, true, true, true, true, true, true, true, true, true, true, true, true, true, true, true, true, true] (by kernel_rfl) (by kernel_rfl) (by kernel_rfl) (EO.storeBox (os' := Ass.deep 94 96 kS96 g3 m9 a2 :: Ass.own 3 (Kd.int .i64) (some ⟨b4, 0, none⟩) 1 a9 :: Ass.box 91 a1 [.slice g3 a2.length m9, .slice q9 a5.length x9] :: Ass.own 3 (Kd.int .i64) q9 x9 a5 :: os) hS 2 rfl 66 1 (.slice q9 a5.length x9) [.slice g3 a2.length m9, .slice q9 a5.length x9] (by kernel_rfl) (by kernel_rfl) (by kernel_rfl) (by kernel_rfl) (by kernel_rfl) (by kernel_rfl) rfl rfl ?_)
       intro w hS
       have hC : Core B [] [Ro.sl (Kd.int .i64) (some a4) a3 a0, Ro.sl (Kd.int .i64) A12 C13 l11] _ := ⟨_, _, hS⟩
       refine ⟨hC, ?_⟩
       refine ED.done (by kernel_rfl) ?_
       refine EQ.to ?_
       refine EQ.keep [3, 12, 13, 14] [(3, .pointer (some ⟨a1, 0, none⟩)), (12, .slice (some a4) a0.length a3), (13, .int .i64 (a0.length : Int)), (14, .int .i64 b0)] (by kernel_rfl) ?_
       exact fun a ha => ⟨(some ⟨b4, 0, none⟩), 1, g3, m9, q9, x9, ha, (hS.re [3, 3, 2, 3] [] rfl (sub_cons 0 rfl (sub_cons 1 rfl (sub_tail (sub_tail (sub_self))))))⟩
     ·refine EO.Y (YO.loadBox hS 1 rfl 66 1 1 (.slice a7 a6.length a8) 29 (by kernel_rfl) (by kernel_rfl) (by kernel_rfl) (by kernel_rfl)) ?_
      have hC : Core B [] [Ro.sl (Kd.int .i64) (some a4) a3 a0, Ro.sl (Kd.int .i64) A12 C13 l11] _ := ⟨_, _, hS⟩
      refine ⟨hC, ?_⟩
      refine ED.at' #[true, true, true, true, true, false, false, false, true, true, true, true, true, true, true, true, false, false, false, false, false, false, false] (by kernel_rfl) ?_
      refine ED.two 5 6 9 (by kernel_rfl) (by kernel_rfl) ?_ ?_
      ·refine EO.Y (YO.loadBox hS 1 rfl 89 0 1 (.slice b2 b1.length b3) 23 (by kernel_rfl) (by kernel_rfl) (by kernel_rfl) (by kernel_rfl)) ?_
       have hC : Core B [] [Ro.sl (Kd.int .i64) (some a4) a3 a0, Ro.sl (Kd.int .i64) A12 C13 l11] _ := ⟨_, _, hS⟩
       refine ⟨hC, ?_⟩
       refine ED.at' #[true, true, true, true, true, true, false, false, true, true, true, true, true, true, true, true, false, false, false, false, false, false, false] (by kernel_rfl) ?_
       refine ED.one 6 8 #[true, true, true, true, true, true, true, false, true, true, true, true, true, true, true, true, false, false, false, false, false, false, false] (by kernel_rfl) (by kernel_rfl) (by kernel_rfl) (EO.lit (xs := ([(none, ([] : List S96).length, 0)] : List Hdr)) hS Kd.hdr 94 89 1 #[(0, .slice none ([] : List S96).length 0)] [.slice none ([] : List S96).length 0] 24 (by kernel_rfl) (by kernel_rfl) (by kernel_rfl) (fun _ => (by kernel_rfl)) rfl (by kernel_rfl) (fun w G hr => ⟨[.slice none ([] : List S96).length 0], [], rfl, rfl, rfl⟩) ?_)
       intro D1 w hS
       have hS := St.nilO hS 96 kS96
       have hC : Core B [] [Ro.sl (Kd.int .i64) (some a4) a3 a0, Ro.sl (Kd.int .i64) A12 C13 l11] _ := ⟨_, _, hS⟩
       refine ⟨hC, ?_⟩
       have hS := St.as (os' := Ass.deep 94 96 kS96 (some ⟨D1, 0, none⟩) 1 ([([] : List S96)] : List (List S96)) :: Ass.own 3 (Kd.int .i64) (some ⟨b4, 0, none⟩) 1 a9 :: Ass.box 91 a1 [.slice b2 b1.length b3, .slice a7 a6.length a8] :: Ass.deep 94 96 kS96 b2 b3 b1 :: Ass.own 3 (Kd.int .i64) a7 a8 a6 :: os) (St.fold (B := B) (os := _) (rs := _) (et := 94) (et' := 96) (K := kS96) (hs := [(none, ([] : List S96).length, 0)]) (xs := ([([] : List S96)] : List (List S96))) ⟨rfl, trivial⟩ (St.re hS [0, 1] [] rfl sub_self)) rfl
       refine ED.one 7 7 #[true, true, true, true, true, true, true, true, true, true, true, true, true, true, true, true, false, false, false, false, false, false, false] (by kernel_rfl) (by kernel_rfl) (by kernel_rfl) (EO.appendDeep hS 89 89 24 3 0 kS96 b2 b3 b1 rfl (some ⟨D1, 0, none⟩) 1 ([([] : List S96)] : List (List S96)) rfl a2 b9 (fun g4 n0 => Ass.deep 94 96 kS96 g4 n0 a2 :: Ass.own 3 (Kd.int .i64) (some ⟨b4, 0, none⟩) 1 a9 :: Ass.box 91 a1 [.slice b2 b1.length b3, .slice a7 a6.length a8] :: Ass.own 3 (Kd.int .i64) a7 a8 a6 :: os) 25 (by kernel_rfl) (by kernel_rfl) (by kernel_rfl) (by kernel_rfl) b8 (fun _ _ => rfl) ?_)
       intro g4 n0 w hS
       have hC : Core B [] [Ro.sl (Kd.int .i64) (some a4) a3 a0, Ro.sl (Kd.int .i64) A12 C13 l11] _ := ⟨_, _, hS⟩
       refine ⟨hC, ?_⟩
       refine ED.one 16 6 #[true, true, true, true, true, true, true, true, true, true, true, true, true, true, true, true, true, false, false, false, false, false, false] (by kernel_rfl) (by kernel_rfl) (by kernel_rfl) (EO.append hS 66 66 3 8 3 (Kd.int .i64) a7 a8 a6 rfl (some ⟨b4, 0, none⟩) 1 a9 (Rd.own 1 3 rfl) a5 b7 (fun t0 y0 => Ass.deep 94 96 kS96 g4 n0 a2 :: Ass.own 3 (Kd.int .i64) (some ⟨b4, 0, none⟩) 1 a9 :: Ass.box 91 a1 [.slice b2 b1.length b3, .slice a7 a6.length a8] :: Ass.own 3 (Kd.int .i64) t0 y0 a5 :: os) 34 (by kernel_rfl) (by kernel_rfl) (by kernel_rfl) (by kernel_rfl) b6 (fun _ _ => rfl) ?_)
       intro t0 y0 w hS
       have hC : Core B [] [Ro.sl (Kd.int .i64) (some a4) a3 a0, Ro.sl (Kd.int .i64) A12 C13 l11] _ := ⟨_, _, hS⟩
       refine ⟨hC, ?_⟩
       refine ED.quick hN hF hC [17, 18] [3, 12, 13, 14, 19, 25, 34, 36] 4 [(3, .pointer (some ⟨a1, 0, none⟩)), (12, .slice (some a4) a0.length a3), (13, .int .i64 (a0.length : Int)), (14, .int .i64 b0), (19, .pointer (some ⟨a1, 0, none⟩)), (25, .slice g4 a2.length n0), (34, .slice t0 a5.length y0), (36, .pointer (some ⟨a1, 0, none⟩))] #[true, true, true, true, true, true, true, true, true, true, true, true, true, true, true, true, true, true, true, false, false, false, false] (by kernel_rfl) (by kernel_rfl) ?_
       refine ED.one 19 3 #[true, true, true, true, true, true, true, true, true, true, true, true, true, true, true, true, true, true, true, true, false, false, false] (by kernel_rfl) (by kernel_rfl) (by kernel_rfl) (EO.storeBox (os' := Ass.deep 94 96 kS96 g4 n0 a2 :: Ass.own 3 (Kd.int .i64) (some ⟨b4, 0, none⟩) 1 a9 :: Ass.box 91 a1 [.slice g4 a2.length n0, .slice a7 a6.length a8] :: Ass.own 3 (Kd.int .i64) t0 y0 a5 :: os) hS 2 rfl 89 0 (.slice g4 a2.length n0) [.slice g4 a2.length n0, .slice a7 a6.length a8] (by kernel_rfl) (by kernel_rfl) (by kernel_rfl) (by kernel_rfl) (by kernel_rfl) (by kernel_rfl) rfl rfl ?_)
       intro w hS
       have hC : Core B [] [Ro.sl (Kd.int .i64) (some a4) a3 a0, Ro.sl (Kd.int .i64) A12 C13 l11] _ := ⟨_, _, hS⟩
       refine ⟨hC, ?_⟩
       refine ED.quick hN hF hC [20, 21] [3, 12, 13, 14, 34, 38] 1 [(3, .pointer (some ⟨a1, 0, none⟩)), (12, .slice (some a4) a0.length a3), (13, .int .i64 (a0.length : Int)), (14, .int .i64 b0), (34, .slice t0 a5.length y0), (38, .pointer (some ⟨a1, 1, none⟩))] #[true, true, true, true, true, true, true, true, true, true, true, true, true, true, true, true, true, true, true, true, true, true, false] (by kernel_rfl) (by kernel_rfl) ?_
       refine ED.one 22 0 #[true, true, true, true, true, true, true, true, true, true, true, true, true, true, true, true, true, true, true, true, true, true, true] (by kernel_rfl) (by kernel_rfl) (by kernel_rfl) (EO.storeBox (os' := Ass.deep 94 96 kS96 g4 n0 a2 :: Ass.own 3 (Kd.int .i64) (some ⟨b4, 0, none⟩) 1 a9 :: Ass.box 91 a1 [.slice g4 a2.length n0, .slice t0 a5.length y0] :: Ass.own 3 (Kd.int .i64) t0 y0 a5 :: os) hS 2 rfl 66 1 (.slice t0 a5.length y0) [.slice g4 a2.length n0, .slice t0 a5.length y0] (by kernel_rfl) (by kernel_rfl) (by kernel_rfl) (by kernel_rfl) (by kernel_rfl) (by kernel_rfl) rfl rfl ?_)
       intro w hS
       have hC : Core B [] [Ro.sl (Kd.int .i64) (some a4) a3 a0, Ro.sl (Kd.int .i64) A12 C13 l11] _ := ⟨_, _, hS⟩
       refine ⟨hC, ?_⟩
       refine ED.done (by kernel_rfl) ?_
       refine EQ.to ?_
       refine EQ.keep [3, 12, 13, 14] [(3, .pointer (some ⟨a1, 0, none⟩)), (12, .slice (some a4) a0.length a3), (13, .int .i64 (a0.length : Int)), (14, .int .i64 b0)] (by kernel_rfl) ?_
       exact fun a ha => ⟨(some ⟨b4, 0, none⟩), 1, g4, n0, t0, y0, ha, (hS.re [3, 3, 2, 3] [] rfl (sub_cons 0 rfl (sub_cons 1 rfl (sub_tail (sub_tail (sub_self))))))⟩
      ·refine EO.lit (xs := ([(none, ([] : List S96).length, 0)] : List Hdr)) hS Kd.hdr 94 89 1 #[(0, .slice none ([] : List S96).length 0)] [.slice none ([] : List S96).length 0] 24 (by kernel_rfl) (by kernel_rfl) (by kernel_rfl) (fun _ => (by kernel_rfl)) rfl (by kernel_rfl) (fun w G hr => ⟨[.slice none ([] : List S96).length 0], [], rfl, rfl, rfl⟩) ?_
       intro D2 w hS
       have hS := St.nilO hS 96 kS96
       have hC : Core B [] [Ro.sl (Kd.int .i64) (some a4) a3 a0, Ro.sl (Kd.int .i64) A12 C13 l11] _ := ⟨_, _, hS⟩
       refine ⟨hC, ?_⟩
       refine ED.at' #[true, true, true, true, true, false, true, false, true, true, true, true, true, true, true, true, false, false, false, false, false, false, false] (by kernel_rfl) ?_
       refine ED.one 5 8 #[true, true, true, true, true, true, true, false, true, true, true, true, true, true, true, true, false, false, false, false, false, false, false] (by kernel_rfl) (by kernel_rfl) (by kernel_rfl) (EO.Y (YO.loadBox hS 3 rfl 89 0 1 (.slice b2 b1.length b3) 23 (by kernel_rfl) (by kernel_rfl) (by kernel_rfl) (by kernel_rfl)) ?_)
       have hC : Core B [] [Ro.sl (Kd.int .i64) (some a4) a3 a0, Ro.sl (Kd.int .i64) A12 C13 l11] _ := ⟨_, _, hS⟩
       refine ⟨hC, ?_⟩
       have hS := St.as (os' := Ass.deep 94 96 kS96 (some ⟨D2, 0, none⟩) 1 ([([] : List S96)] : List (List S96)) :: Ass.own 3 (Kd.int .i64) (some ⟨b4, 0, none⟩) 1 a9 :: Ass.box 91 a1 [.slice b2 b1.length b3, .slice a7 a6.length a8] :: Ass.deep 94 96 kS96 b2 b3 b1 :: Ass.own 3 (Kd.int .i64) a7 a8 a6 :: os) (St.fold (B := B) (os := _) (rs := _) (et := 94) (et' := 96) (K := kS96) (hs := [(none, ([] : List S96).length, 0)]) (xs := ([([] : List S96)] : List (List S96))) ⟨rfl, trivial⟩ (St.re hS [0, 1] [] rfl sub_self)) rfl
       refine ED.one 7 7 #[true, true, true, true, true, true, true, true, true, true, true, true, true, true, true, true, false, false, false, false, false, false, false] (by kernel_rfl) (by kernel_rfl) (by kernel_rfl) (EO.appendDeep hS 89 89 24 3 0 kS96 b2 b3 b1 rfl (some ⟨D2, 0, none⟩) 1 ([([] : List S96)] : List (List S96)) rfl a2 b9 (fun g5 n1 => Ass.deep 94 96 kS96 g5 n1 a2 :: Ass.own 3 (Kd.int .i64) (some ⟨b4, 0, none⟩) 1 a9 :: Ass.box 91 a1 [.slice b2 b1.length b3, .slice a7 a6.length a8] :: Ass.own 3 (Kd.int .i64) a7 a8 a6 :: os) 25 (by kernel_rfl) (by kernel_rfl) (by kernel_rfl) (by kernel_rfl) b8 (fun _ _ => rfl) ?_)
       intro g5 n1 w hS
       have hC : Core B [] [Ro.sl (Kd.int .i64) (some a4) a3 a0, Ro.sl (Kd.int .i64) A12 C13 l11] _ := ⟨_, _, hS⟩
       refine ⟨hC, ?_⟩
       refine ED.one 16 6 #[true, true, true, true, true, true, true, true, true, true, true, true, true, true, true, true, true, false, false, false, false, false, false] (by kernel_rfl) (by kernel_rfl) (by kernel_rfl) (EO.append hS 66 66 3 8 3 (Kd.int .i64) a7 a8 a6 rfl (some ⟨b4, 0, none⟩) 1 a9 (Rd.own 1 3 rfl) a5 b7 (fun t1 y1 => Ass.deep 94 96 kS96 g5 n1 a2 :: Ass.own 3 (Kd.int .i64) (some ⟨b4, 0, none⟩) 1 a9 :: Ass.box 91 a1 [.slice b2 b1.length b3, .slice a7 a6.length a8] :: Ass.own 3 (Kd.int .i64) t1 y1 a5 :: os) 34 (by kernel_rfl) (by kernel_rfl) (by kernel_rfl) (by kernel_rfl) b6 (fun _ _ => rfl) ?_)
       intro t1 y1 w hS
       have hC : Core B [] [Ro.sl (Kd.int .i64) (some a4) a3 a0, Ro.sl (Kd.int .i64) A12 C13 l11] _ := ⟨_, _, hS⟩
       refine ⟨hC, ?_⟩
       refine ED.quick hN hF hC [17, 18] [3, 12, 13, 14, 19, 25, 34, 36] 4 [(3, .pointer (some ⟨a1, 0, none⟩)), (12, .slice (some a4) a0.length a3), (13, .int .i64 (a0.length : Int)), (14, .int .i64 b0), (19, .pointer (some ⟨a1, 0, none⟩)), (25, .slice g5 a2.length n1), (34, .slice t1 a5.length y1), (36, .pointer (some ⟨a1, 0, none⟩))] #[true, true, true, true, true, true, true, true, true, true, true, true, true, true, true, true, true, true, true, false, false, false, false] (by kernel_rfl) (by kernel_rfl) ?_
       refine ED.one 19 3 #[true, true, true, true, true, true, true, true, true, true, true, true, true, true, true, true, true, true, true, true, false, false, false] (by kernel_rfl) (by kernel_rfl) (by kernel_rfl) (EO.storeBox (os' := Ass.deep 94 96 kS96 g5 n1 a2 :: Ass.own 3 (Kd.int .i64) (some ⟨b4, 0, none⟩) 1 a9 :: Ass.box 91 a1 [.slice g5 a2.length n1, .slice a7 a6.length a8] :: Ass.own 3 (Kd.int .i64) t1 y1 a5 :: os) hS 2 rfl 89 0 (.slice g5 a2.length n1) [.slice g5 a2.length n1, .slice a7 a6.length a8] (by kernel_rfl) (by kernel_rfl) (by kernel_rfl) (by kernel_rfl) (by kernel_rfl) (by kernel_rfl) rfl rfl ?_)
       intro w hS
       have hC : Core B [] [Ro.sl (Kd.int .i64) (some a4) a3 a0, Ro.sl (Kd.int .i64) A12 C13 l11] _ := ⟨_, _, hS⟩
       refine ⟨hC, ?_⟩
       refine ED.quick hN hF hC [20, 21] [3, 12, 13, 14, 34, 38] 1 [(3, .pointer (some ⟨a1, 0, none⟩)), (12, .slice (some a4) a0.length a3), (13, .int .i64 (a0.length : Int)), (14, .int .i64 b0), (34, .slice t1 a5.length y1), (38, .pointer (some ⟨a1, 1, none⟩))] #[true, true, true, true, true, true, true, true, true, true, true, true, true, true, true, true, true, true, true, true, true, true, false] (by kernel_rfl) (by kernel_rfl) ?_
       refine ED.one 22 0 #[true, true, true, true, true, true, true, true, true, true, true, true, true, true, true, true, true, true, true, true, true, true, true] (by kernel_rfl) (by kernel_rfl) (by kernel_rfl) (EO.storeBox (os' := Ass.deep 94 96 kS96 g5 n1 a2 :: Ass.own 3 (Kd.int .i64) (some ⟨b4, 0, none⟩) 1 a9 :: Ass.box 91 a1 [.slice g5 a2.length n1, .slice t1 a5.length y1] :: Ass.own 3 (Kd.int .i64) t1 y1 a5 :: os) hS 2 rfl 66 1 (.slice t1 a5.length y1) [.slice g5 a2.length n1, .slice t1 a5.length y1] (by kernel_rfl) (by kernel_rfl) (by kernel_rfl) (by kernel_rfl) (by kernel_rfl) (by kernel_rfl) rfl rfl ?_)
       intro w hS
       have hC : Core B [] [Ro.sl (Kd.int .i64) (some a4) a3 a0, Ro.sl (Kd.int .i64) A12 C13 l11] _ := ⟨_, _, hS⟩
       refine ⟨hC, ?_⟩
       refine ED.done (by kernel_rfl) ?_
       refine EQ.to ?_
       refine EQ.keep [3, 12, 13, 14] [(3, .pointer (some ⟨a1, 0, none⟩)), (12, .slice (some a4) a0.length a3), (13, .int .i64 (a0.length : Int)), (14, .int .i64 b0)] (by kernel_rfl) ?_
       exact fun a ha => ⟨(some ⟨b4, 0, none⟩), 1, g5, n1, t1, y1, ha, (hS.re [3, 3, 2, 3] [] rfl (sub_cons 0 rfl (sub_cons 1 rfl (sub_tail (sub_tail (sub_self))))))⟩
   ·obtain ⟨C0, C3, A7, A9, A8, B0, ha, hS⟩ := hI
    refine EQ.at ?_ a ha
    clear ha a
    refine EQ.pop ?_
    refine EQ.code ?_
    refine EW.region (id := 6) (ops := Cd11.r.r.l.r.l.l.r.r.r.ops) (by kernel_rfl) ?_
    refine EL.quick 2 [3, 12, 13, 14] [(3, .pointer (some ⟨a1, 0, none⟩)), (12, .slice (some a4) a0.length a3), (13, .int .i64 (a0.length : Int)), (14, .int .i64 (IntKind.i64.wrap (b0 + 1)))] (by kernel_rfl) ?_
    refine EL.done (by kernel_rfl) ?_
    refine EQ.to ?_
    refine EQ.keep [3, 12, 13, 14] [(3, .pointer (some ⟨a1, 0, none⟩)), (12, .slice (some a4) a0.length a3), (13, .int .i64 (a0.length : Int)), (14, .int .i64 (IntKind.i64.wrap (b0 + 1)))] (by kernel_rfl) ?_
    exact fun a ha => ⟨n, Nat.lt_succ_self n, a2, a5, IntKind.i64.wrap (b0 + 1), A7, A9, A8, B0, ha, (hS.re [3, 2, 3] [3] rfl (sub_cons 0 rfl (sub_cons 1 rfl (sub_tail (sub_tail (sub_self)))))), H⟩
  ·rw [if_neg z5] at H
   refine EW.exit (id := 0) (by kernel_rfl) ?_
   refine EQ.exitCode ?_
   refine EQ.exitTo ?_
   refine EQ.exitHere ?_
   refine EQ.code ?_
   refine EW.seq (x := Cd11.r.r.r.l) (y := Cd11.r.r.r.r) (by kernel_rfl) ?_
   refine EW.region (id := 7) (ops := Cd11.r.r.r.l.ops) (by kernel_rfl) ?_
   refine EL.quick 2 [2] [(2, .pointer (some ⟨a1, 0, none⟩))] (by kernel_rfl) ?_
   refine EL.done (by kernel_rfl) ?_
   refine EQ.code ?_
   refine EW.ret (by kernel_rfl) ?_
   simp only [Option.some.injEq, Prod.mk.injEq] at H
   obtain ⟨rfl, rfl⟩ := H
   exact EQ.leave (.pointer (some ⟨a1, 0, none⟩)) (by kernel_rfl) ⟨_, rfl, a1, b2, b3, a7, a8, rfl, (hS.re [2, 2, 2] [] rfl (sub_tail (sub_self)))⟩

end Go.Proofs.Ytipaaapbapijhaa.G
