import Derived.Test.YtipaaapbapijhaaProg
import Derived.Test.YtipaaapbapijhaaFwEq
import Derived.Test.YtipaaapbapijhaaFwOpen
import Derived.Test.YtipaaapbapijhaaG0
namespace Go.Proofs.Ytipaaapbapijhaa.G
open Go Go.Fw Go.RowKit Go.Proofs
set_option linter.unusedVariables false
set_option linter.unusedSimpArgs false

/-! ### confidant/future.New: function 11 -/
def future_New.l0 (K : Nat) (l244 : List Int) : Nat → (List (List S96)) → (List Int) → Int → Option (List (List S96) × List Int)
  | 0, _, _, _ => none
  | n + 1, x354, x358, x362 => if x362 < (l244.length : Int) then (if 0 ≤ x362 then (if (x354.length + ([([] : List S96)] : List (List S96)).length) * 24 ≤ 140737488355328 then (lt (x354 ++ ([([] : List S96)] : List (List S96))) fun l438 => (lt ([mn (mx (l244.getD x362.toNat 0) 0) 4096] : List Int) fun l442 => (if (x358.length + l442.length) * 8 ≤ 140737488355328 then (lt (x358 ++ l442) fun l444 => (future_New.l0 K l244 n l438 l444 (IntKind.i64.wrap (x362 + 1)))) else none))) else none) else none) else (some (x354, x358))
def future_New.f (K : Nat) (l9 : List Int) : Option (List (List S96) × List Int) := if 0 ≤ (mn (l9.length : Int) 16) then (if (mn (l9.length : Int) 16) ≤ (l9.length : Int) then (lt (l9.take ((mn (l9.length : Int) 16).toNat)) fun l244 => (future_New.l0 K l244 K ([] : List (List S96)) ([] : List Int) 0)) else none) else none
set_option maxHeartbeats 4000000 in
set_option maxRecDepth 100000 in
theorem future_New.calls {K : Nat} {l9 : List Int} {A10 : Option Addr} {C11 : Nat} {x225 : List (List S96)} {x230 : List Int} {B w : World} {os : List Ass} {rs : List Ro} (H : future_New.f K l9 = some (x225, x230)) (hS : St B w (os) (Ro.sl (Kd.int .i64) A10 C11 l9 :: rs)) :
    Calls Try.prog 11 [.slice A10 l9.length C11].toArray w (fun en w' => ∃ v, en = .returned v ∧ ∃ g224 : Nat, ∃ A226 : Option Addr, ∃ C227 : Nat, ∃ A231 : Option Addr, ∃ C232 : Nat, v = .pointer (some ⟨g224, 0, none⟩) ∧ St B w' (Ass.box 91 g224 [.slice A226 x225.length C227, .slice A231 x230.length C232] :: Ass.deep 94 96 kS96 A226 C227 x225 :: Ass.own 3 (Kd.int .i64) A231 C232 x230 :: os) (Ro.sl (Kd.int .i64) A10 C11 l9 :: rs)) := by
  unfold future_New.f at H
  refine calls_of_EW (args := [.slice A10 l9.length C11]) (c := Cd11) 41 Try.func11 (by kernel_rfl) (by kernel_rfl) (by kernel_rfl) ?_
  refine EW.seq (x := Cd11.l) (y := Cd11.r) (by kernel_rfl) ?_
  refine EW.region (id := 0) (ops := Cd11.l.ops) (by kernel_rfl) ?_
  refine EL.quick 1 [0] [(0, .slice A10 l9.length C11)] (by kernel_rfl) ?_
  refine EL.done (by kernel_rfl) ?_
  refine EQ.code ?_
  refine EW.seq (x := Cd11.r.l) (y := Cd11.r.r) (by kernel_rfl) ?_
  refine EW.region (id := 1) (ops := Cd11.r.l.ops) (by kernel_rfl) ?_
  refine EL.quick 1 [0, 6] [(0, .slice A10 l9.length C11), (6, .agg #[.slice none ([] : List (List S96)).length 0, .slice none ([] : List Int).length 0])] (by kernel_rfl) ?_
  refine EL.of (EO.box hS 91 (.agg #[.slice none ([] : List (List S96)).length 0, .slice none ([] : List Int).length 0]) [.slice none ([] : List (List S96)).length 0, .slice none ([] : List Int).length 0] 7 (by kernel_rfl) (by kernel_rfl) (by kernel_rfl) (by first | rfl | kernel_rfl) ?_)
  intro g236 w hS
  refine EL.quick 1 [0, 3] [(0, .slice A10 l9.length C11), (3, .pointer (some ⟨g236, 0, none⟩))] (by kernel_rfl) ?_
  refine EL.done (by kernel_rfl) ?_
  refine EQ.code ?_
  refine EW.seq (x := Cd11.r.r.l) (y := Cd11.r.r.r) (by kernel_rfl) ?_
  refine EW.seq (x := Cd11.r.r.l.l) (y := Cd11.r.r.l.r) (by kernel_rfl) ?_
  refine EW.region (id := 2) (ops := Cd11.r.r.l.l.ops) (by kernel_rfl) ?_
  refine EL.quick 4 [3, 8, 11] [(3, .pointer (some ⟨g236, 0, none⟩)), (8, .slice A10 l9.length C11), (11, .int .i64 (mn (l9.length : Int) 16))] (by kernel_rfl) ?_
  obtain ⟨h242, H⟩ := ite_in H
  obtain ⟨h243, H⟩ := ite_in H
  obtain ⟨l244, hl244, H⟩ := lt_out H
  refine EL.of (EO.sliceRo hS (Kd.int .i64) A10 C11 l9 0 rfl none (some (.int .i64 (mn (l9.length : Int) 16))) none 0 ((mn (l9.length : Int) 16).toNat) C11 l244 (by rw [hl244]; exact (slice_hi _ _)) 66 12 (by kernel_rfl) (by kernel_rfl) (by kernel_rfl) (by kernel_rfl) (rfl) ((Int.toNat_of_nonneg (by omega)).symm) ⟨rfl, fun h => by first | rfl | cases h⟩ (by omega) (by omega) (.inl rfl) ?_)
  intro A245 C246 hS
  refine EL.quick 2 [3, 12, 13, 14] [(3, .pointer (some ⟨g236, 0, none⟩)), (12, .slice A245 l244.length C246), (13, .int .i64 (l244.length : Int)), (14, .int .i64 0)] (by kernel_rfl) ?_
  refine EL.done (by kernel_rfl) ?_
  refine EQ.code ?_
  refine EW.block (x := Cd11.r.r.l.r.l) (id := 0) (by kernel_rfl) ?_
  have hS := St.nilDeep hS 94 96 kS96
  have hS := St.nilO hS 3 (Kd.int .i64)
  refine EW.loop (x := Cd11.r.r.l.r.l.l) (fun n a w => ∃ x354 : List (List S96), ∃ x358 : List Int, ∃ x362 : Int, ∃ A355 : Option Addr, ∃ C356 : Nat, ∃ A359 : Option Addr, ∃ C360 : Nat, Sat 41 [(3, .pointer (some ⟨g236, 0, none⟩)), (12, .slice A245 l244.length C246), (13, .int .i64 (l244.length : Int)), (14, .int .i64 x362)] a ∧ St B w (Ass.box 91 g236 [.slice A355 x354.length C356, .slice A359 x358.length C360] :: Ass.deep 94 96 kS96 A355 C356 x354 :: Ass.own 3 (Kd.int .i64) A359 C360 x358 :: os) (Ro.sl (Kd.int .i64) A245 C246 l244 :: Ro.sl (Kd.int .i64) A10 C11 l9 :: rs) ∧ future_New.l0 K l244 n x354 x358 x362 = some (x225, x230)) K (by kernel_rfl) ?_ (fun n a w hI => ?_)
  · refine EQ.keep [3, 12, 13, 14] [(3, .pointer (some ⟨g236, 0, none⟩)), (12, .slice A245 l244.length C246), (13, .int .i64 (l244.length : Int)), (14, .int .i64 0)] (by kernel_rfl) ?_
    exact fun a ha => ⟨([] : List (List S96)), ([] : List Int), 0, none, 0, none, 0, ha, (hS.re [0, 1, 2] [] rfl (sub_cons 0 rfl (sub_cons 1 rfl (sub_tail (sub_tail (sub_self)))))), H⟩
  · obtain ⟨x354, x358, x362, A355, C356, A359, C360, ha, hS, H⟩ := hI
    obtain _ | n := n
    · simp [future_New.l0] at H
    rw [future_New.l0.eq_2] at H
    refine EW.at ?_ a ha
    clear ha a
    refine EW.seq (x := Cd11.r.r.l.r.l.l.l) (y := Cd11.r.r.l.r.l.l.r) (by kernel_rfl) ?_
    refine EW.region (id := 3) (ops := Cd11.r.r.l.r.l.l.l.ops) (by kernel_rfl) ?_
    refine EL.quick 1 [3, 12, 13, 14, 15] [(3, .pointer (some ⟨g236, 0, none⟩)), (12, .slice A245 l244.length C246), (13, .int .i64 (l244.length : Int)), (14, .int .i64 x362), (15, .bool (decide (x362 < (l244.length : Int))))] (by kernel_rfl) ?_
    refine EL.done (by kernel_rfl) ?_
    refine EQ.code ?_
    refine EW.seq (x := Cd11.r.r.l.r.l.l.r.l) (y := Cd11.r.r.l.r.l.l.r.r) (by kernel_rfl) ?_
    refine EW.condP (o := (.tmp 15)) (x := Cd11.r.r.l.r.l.l.r.l.l) (y := Cd11.r.r.l.r.l.l.r.l.r) (x362 < (l244.length : Int)) (by kernel_rfl) (by kernel_rfl) (fun h414 => ?_) (fun h414 => ?_)
    · rw [if_pos h414] at H
      refine EW.skip (by kernel_rfl) ?_
      refine EQ.code ?_
      refine EW.seq (x := Cd11.r.r.l.r.l.l.r.r.l) (y := Cd11.r.r.l.r.l.l.r.r.r) (by kernel_rfl) ?_
      refine EW.block (x := Cd11.r.r.l.r.l.l.r.r.l.l) (id := 1) (by kernel_rfl) ?_
      refine EW.seq (x := Cd11.r.r.l.r.l.l.r.r.l.l.l) (y := Cd11.r.r.l.r.l.l.r.r.l.l.r) (by kernel_rfl) ?_
      refine EW.region (id := 4) (ops := Cd11.r.r.l.r.l.l.r.r.l.l.l.ops) (by kernel_rfl) ?_
      obtain ⟨h433, H⟩ := ite_in H
      obtain ⟨ad434, rfl⟩ := St.rd_some hS (Rd.ro 0 rfl) h433 h414
      refine EL.of (EO.Y (YO.idx 66 1 ad434 l244.length C246 .i64 x362 16 (by kernel_rfl) (by kernel_rfl) (by kernel_rfl) (by kernel_rfl) h433 h414) ?_)
      refine EL.of (EO.Y (YO.loadEl hS (Kd.int .i64) ad434 C246 l244 (Rd.ro 0 rfl) 0 (encI .i64) encI_of x362 h433 h414 3 1 0 1 rfl (.int .i64 (l244.getD x362.toNat 0)) 17 (by kernel_rfl) (by kernel_rfl) (by kernel_rfl) (by kernel_rfl)) ?_)
      refine EL.quick 1 [3, 5, 12, 13, 14] [(3, .pointer (some ⟨g236, 0, none⟩)), (5, .int .i64 (l244.getD x362.toNat 0)), (12, .slice (some ad434) l244.length C246), (13, .int .i64 (l244.length : Int)), (14, .int .i64 x362)] (by kernel_rfl) ?_
      refine EL.done (by kernel_rfl) ?_
      refine EQ.code ?_
      obtain ⟨h437, H⟩ := ite_in H
      obtain ⟨l438, hl438, H⟩ := lt_out H
      obtain ⟨l442, hl442, H⟩ := lt_out H
      obtain ⟨h443, H⟩ := ite_in H
      obtain ⟨l444, hl444, H⟩ := lt_out H
      refine EW.meet (id := 5) (ops := Cd11.r.r.l.r.l.l.r.r.l.l.r.ops) (fun a w => ∃ A661 : Option Addr, ∃ C662 : Nat, ∃ A663 : Option Addr, ∃ C664 : Nat, ∃ A665 : Option Addr, ∃ C666 : Nat, Sat 41 [(3, .pointer (some ⟨g236, 0, none⟩)), (12, .slice (some ad434) l244.length C246), (13, .int .i64 (l244.length : Int)), (14, .int .i64 x362)] a ∧ St B w (Ass.own 3 (Kd.int .i64) A661 C662 l442 :: Ass.deep 94 96 kS96 A663 C664 l438 :: Ass.box 91 g236 [.slice A663 l438.length C664, .slice A665 l444.length C666] :: Ass.own 3 (Kd.int .i64) A665 C666 l444 :: os) (Ro.sl (Kd.int .i64) (some ad434) C246 l244 :: Ro.sl (Kd.int .i64) A10 C11 l9 :: rs)) (by kernel_rfl) ?_ (fun a w hI => ?_)
      · have hS := hS.drew
        refine EW.draw (B := B) (id := 5) (ops := Cd11.r.r.l.r.l.l.r.r.l.l.r.ops) [] [Ro.sl (Kd.int .i64) (some ad434) C246 l244, Ro.sl (Kd.int .i64) A10 C11 l9] (by kernel_rfl) (by kernel_rfl) ?_
        have hN : Region.noSelect Cd11.r.r.l.r.l.l.r.r.l.l.r.ops = true := (by kernel_rfl)
        have hF : freeAll Cd11.r.r.l.r.l.l.r.r.l.l.r.ops = true := (by kernel_rfl)
        have hC : Core B [] [Ro.sl (Kd.int .i64) (some ad434) C246 l244, Ro.sl (Kd.int .i64) A10 C11 l9] _ := ⟨_, _, hS⟩
        refine ED.quick hN hF hC [0, 1, 2, 3, 4, 8, 9, 10, 12, 13, 14] [3, 12, 13, 14, 18, 19, 22, 28, 32] 12 [(3, .pointer (some ⟨g236, 0, none⟩)), (12, .slice (some ad434) l244.length C246), (13, .int .i64 (l244.length : Int)), (14, .int .i64 x362), (18, .pointer (some ⟨g236, 0, none⟩)), (19, .pointer (some ⟨g236, 0, none⟩)), (22, .pointer (some ⟨g236, 0, none⟩)), (28, .pointer (some ⟨g236, 1, none⟩)), (32, .int .i64 (mn (mx (l244.getD x362.toNat 0) 0) 4096))] #[true, true, true, true, true, false, false, false, true, true, true, false, true, true, true, false, false, false, false, false, false, false, false] (by kernel_rfl) (by kernel_rfl) ?_
        refine ED.many 5 [6, 11, 15] 11 (by kernel_rfl) (by kernel_rfl) (Each.cons ?_ (Each.cons ?_ (Each.cons ?_ (Each.cons ?_ Each.nil))))
        · refine EO.Y (YO.loadBox hS 0 rfl 89 0 1 (.slice A355 x354.length C356) 23 (by kernel_rfl) (by kernel_rfl) (by kernel_rfl) (by kernel_rfl)) ?_
          have hC : Core B [] [Ro.sl (Kd.int .i64) (some ad434) C246 l244, Ro.sl (Kd.int .i64) A10 C11 l9] _ := ⟨_, _, hS⟩
          refine ⟨hC, ?_⟩
          refine ED.at' #[true, true, true, true, true, true, false, false, true, true, true, false, true, true, true, false, false, false, false, false, false, false, false] (by kernel_rfl) ?_
          refine ED.many 6 [11, 15] 10 (by kernel_rfl) (by kernel_rfl) (Each.cons ?_ (Each.cons ?_ (Each.cons ?_ Each.nil)))
          · refine EO.lit (xs := ([(none, ([] : List S96).length, 0)] : List Hdr)) hS Kd.hdr 94 89 1 #[(0, .slice none ([] : List S96).length 0)] [.slice none ([] : List S96).length 0] 24 (by kernel_rfl) (by kernel_rfl) (by kernel_rfl) (fun _ => (by kernel_rfl)) rfl (by kernel_rfl) (fun w G hr => ⟨[.slice none ([] : List S96).length 0], [], rfl, rfl, rfl⟩) ?_
            intro g667 w hS
            have hS := St.nilO hS 96 kS96
            have hC : Core B [] [Ro.sl (Kd.int .i64) (some ad434) C246 l244, Ro.sl (Kd.int .i64) A10 C11 l9] _ := ⟨_, _, hS⟩
            refine ⟨hC, ?_⟩
            refine ED.at' #[true, true, true, true, true, true, true, false, true, true, true, false, true, true, true, false, false, false, false, false, false, false, false] (by kernel_rfl) ?_
            refine ED.many 7 [11, 15] 9 (by kernel_rfl) (by kernel_rfl) (Each.cons ?_ (Each.cons ?_ (Each.cons ?_ Each.nil)))
            · have hS := St.as (os' := Ass.deep 94 96 kS96 (some ⟨g667, 0, none⟩) 1 ([([] : List S96)] : List (List S96)) :: Ass.box 91 g236 [.slice A355 x354.length C356, .slice A359 x358.length C360] :: Ass.deep 94 96 kS96 A355 C356 x354 :: Ass.own 3 (Kd.int .i64) A359 C360 x358 :: os) (St.fold (B := B) (os := _) (rs := _) (et := 94) (et' := 96) (K := kS96) (hs := [(none, ([] : List S96).length, 0)]) (xs := ([([] : List S96)] : List (List S96))) ⟨rfl, trivial⟩ (St.re hS [0, 1] [] rfl sub_self)) rfl
              refine EO.appendDeep hS 89 89 24 2 0 kS96 A355 C356 x354 rfl (some ⟨g667, 0, none⟩) 1 ([([] : List S96)] : List (List S96)) rfl l438 hl438 (fun A669 C670 => Ass.deep 94 96 kS96 A669 C670 l438 :: Ass.box 91 g236 [.slice A355 x354.length C356, .slice A359 x358.length C360] :: Ass.own 3 (Kd.int .i64) A359 C360 x358 :: os) 25 (by kernel_rfl) (by kernel_rfl) (by kernel_rfl) (by kernel_rfl) h437 (fun _ _ => rfl) ?_
              intro A669 C670 w hS
              have hC : Core B [] [Ro.sl (Kd.int .i64) (some ad434) C246 l244, Ro.sl (Kd.int .i64) A10 C11 l9] _ := ⟨_, _, hS⟩
              refine ⟨hC, ?_⟩
              refine ED.at' #[true, true, true, true, true, true, true, true, true, true, true, false, true, true, true, false, false, false, false, false, false, false, false] (by kernel_rfl) ?_
              refine ED.two 11 15 8 (by kernel_rfl) (by kernel_rfl) ?_ ?_
              · refine EO.Y (YO.loadBox hS 1 rfl 66 1 1 (.slice A359 x358.length C360) 29 (by kernel_rfl) (by kernel_rfl) (by kernel_rfl) (by kernel_rfl)) ?_
                have hC : Core B [] [Ro.sl (Kd.int .i64) (some ad434) C246 l244, Ro.sl (Kd.int .i64) A10 C11 l9] _ := ⟨_, _, hS⟩
                refine ⟨hC, ?_⟩
                refine ED.at' #[true, true, true, true, true, true, true, true, true, true, true, true, true, true, true, false, false, false, false, false, false, false, false] (by kernel_rfl) ?_
                refine ED.one 15 7 #[true, true, true, true, true, true, true, true, true, true, true, true, true, true, true, true, false, false, false, false, false, false, false] (by kernel_rfl) (by kernel_rfl) (by kernel_rfl) (EO.lit hS (Kd.int .i64) 3 66 1 #[(0, .int .i64 (mn (mx (l244.getD x362.toNat 0) 0) 4096))] [.int .i64 (mn (mx (l244.getD x362.toNat 0) 0) 4096)] l442 33 (by kernel_rfl) (by kernel_rfl) (by kernel_rfl) (fun _ => (by kernel_rfl)) (by rw [hl442]; rfl) (by kernel_rfl) (fun w G hr => (by rw [hl442]; exact ⟨[.int .i64 (mn (mx (l244.getD x362.toNat 0) 0) 4096)], [], rfl, rfl, rfl⟩)) ?_)
                intro g671 w hS
                have hC : Core B [] [Ro.sl (Kd.int .i64) (some ad434) C246 l244, Ro.sl (Kd.int .i64) A10 C11 l9] _ := ⟨_, _, hS⟩
                refine ⟨hC, ?_⟩
                refine ED.one 16 6 #[true, true, true, true, true, true, true, true, true, true, true, true, true, true, true, true, true, false, false, false, false, false, false] (by kernel_rfl) (by kernel_rfl) (by kernel_rfl) (EO.append hS 66 66 3 8 3 (Kd.int .i64) A359 C360 x358 rfl (some ⟨g671, 0, none⟩) 1 l442 (Rd.own 0 3 rfl) l444 hl444 (fun A672 C673 => Ass.own 3 (Kd.int .i64) (some ⟨g671, 0, none⟩) 1 l442 :: Ass.deep 94 96 kS96 A669 C670 l438 :: Ass.box 91 g236 [.slice A355 x354.length C356, .slice A359 x358.length C360] :: Ass.own 3 (Kd.int .i64) A672 C673 l444 :: os) 34 (by kernel_rfl) (by kernel_rfl) (by kernel_rfl) (by kernel_rfl) h443 (fun _ _ => rfl) ?_)
                intro A672 C673 w hS
                have hC : Core B [] [Ro.sl (Kd.int .i64) (some ad434) C246 l244, Ro.sl (Kd.int .i64) A10 C11 l9] _ := ⟨_, _, hS⟩
                refine ⟨hC, ?_⟩
                refine ED.quick hN hF hC [17, 18] [3, 12, 13, 14, 19, 25, 34, 36] 4 [(3, .pointer (some ⟨g236, 0, none⟩)), (12, .slice (some ad434) l244.length C246), (13, .int .i64 (l244.length : Int)), (14, .int .i64 x362), (19, .pointer (some ⟨g236, 0, none⟩)), (25, .slice A669 l438.length C670), (34, .slice A672 l444.length C673), (36, .pointer (some ⟨g236, 0, none⟩))] #[true, true, true, true, true, true, true, true, true, true, true, true, true, true, true, true, true, true, true, false, false, false, false] (by kernel_rfl) (by kernel_rfl) ?_
                refine ED.one 19 3 #[true, true, true, true, true, true, true, true, true, true, true, true, true, true, true, true, true, true, true, true, false, false, false] (by kernel_rfl) (by kernel_rfl) (by kernel_rfl) (EO.storeBox (os' := Ass.own 3 (Kd.int .i64) (some ⟨g671, 0, none⟩) 1 l442 :: Ass.deep 94 96 kS96 A669 C670 l438 :: Ass.box 91 g236 [.slice A669 l438.length C670, .slice A359 x358.length C360] :: Ass.own 3 (Kd.int .i64) A672 C673 l444 :: os) hS 2 rfl 89 0 (.slice A669 l438.length C670) [.slice A669 l438.length C670, .slice A359 x358.length C360] (by kernel_rfl) (by kernel_rfl) (by kernel_rfl) (by kernel_rfl) (by kernel_rfl) (by kernel_rfl) rfl rfl ?_)
                intro w hS
                have hC : Core B [] [Ro.sl (Kd.int .i64) (some ad434) C246 l244, Ro.sl (Kd.int .i64) A10 C11 l9] _ := ⟨_, _, hS⟩
                refine ⟨hC, ?_⟩
                refine ED.quick hN hF hC [20, 21] [3, 12, 13, 14, 34, 38] 1 [(3, .pointer (some ⟨g236, 0, none⟩)), (12, .slice (some ad434) l244.length C246), (13, .int .i64 (l244.length : Int)), (14, .int .i64 x362), (34, .slice A672 l444.length C673), (38, .pointer (some ⟨g236, 1, none⟩))] #[true, true, true, true, true, true, true, true, true, true, true, true, true, true, true, true, true, true, true, true, true, true, false] (by kernel_rfl) (by kernel_rfl) ?_
                refine ED.one 22 0 #[true, true, true, true, true, true, true, true, true, true, true, true, true, true, true, true, true, true, true, true, true, true, true] (by kernel_rfl) (by kernel_rfl) (by kernel_rfl) (EO.storeBox (os' := Ass.own 3 (Kd.int .i64) (some ⟨g671, 0, none⟩) 1 l442 :: Ass.deep 94 96 kS96 A669 C670 l438 :: Ass.box 91 g236 [.slice A669 l438.length C670, .slice A672 l444.length C673] :: Ass.own 3 (Kd.int .i64) A672 C673 l444 :: os) hS 2 rfl 66 1 (.slice A672 l444.length C673) [.slice A669 l438.length C670, .slice A672 l444.length C673] (by kernel_rfl) (by kernel_rfl) (by kernel_rfl) (by kernel_rfl) (by kernel_rfl) (by kernel_rfl) rfl rfl ?_)
                intro w hS
                have hC : Core B [] [Ro.sl (Kd.int .i64) (some ad434) C246 l244, Ro.sl (Kd.int .i64) A10 C11 l9] _ := ⟨_, _, hS⟩
                refine ⟨hC, ?_⟩
                refine ED.done (by kernel_rfl) ?_
                refine EQ.to ?_
                refine EQ.keep [3, 12, 13, 14] [(3, .pointer (some ⟨g236, 0, none⟩)), (12, .slice (some ad434) l244.length C246), (13, .int .i64 (l244.length : Int)), (14, .int .i64 x362)] (by kernel_rfl) ?_
                exact fun a ha => ⟨(some ⟨g671, 0, none⟩), 1, A669, C670, A672, C673, ha, (hS.re [3, 3, 3, 3] [] rfl (sub_cons 0 rfl (sub_cons 1 rfl (sub_tail (sub_tail (sub_self))))))⟩
              · refine EO.lit hS (Kd.int .i64) 3 66 1 #[(0, .int .i64 (mn (mx (l244.getD x362.toNat 0) 0) 4096))] [.int .i64 (mn (mx (l244.getD x362.toNat 0) 0) 4096)] l442 33 (by kernel_rfl) (by kernel_rfl) (by kernel_rfl) (fun _ => (by kernel_rfl)) (by rw [hl442]; rfl) (by kernel_rfl) (fun w G hr => (by rw [hl442]; exact ⟨[.int .i64 (mn (mx (l244.getD x362.toNat 0) 0) 4096)], [], rfl, rfl, rfl⟩)) ?_
                intro g674 w hS
                have hC : Core B [] [Ro.sl (Kd.int .i64) (some ad434) C246 l244, Ro.sl (Kd.int .i64) A10 C11 l9] _ := ⟨_, _, hS⟩
                refine ⟨hC, ?_⟩
                refine ED.at' #[true, true, true, true, true, true, true, true, true, true, true, false, true, true, true, true, false, false, false, false, false, false, false] (by kernel_rfl) ?_
                refine ED.one 11 7 #[true, true, true, true, true, true, true, true, true, true, true, true, true, true, true, true, false, false, false, false, false, false, false] (by kernel_rfl) (by kernel_rfl) (by kernel_rfl) (EO.Y (YO.loadBox hS 2 rfl 66 1 1 (.slice A359 x358.length C360) 29 (by kernel_rfl) (by kernel_rfl) (by kernel_rfl) (by kernel_rfl)) ?_)
                have hC : Core B [] [Ro.sl (Kd.int .i64) (some ad434) C246 l244, Ro.sl (Kd.int .i64) A10 C11 l9] _ := ⟨_, _, hS⟩
                refine ⟨hC, ?_⟩
                refine ED.one 16 6 #[true, true, true, true, true, true, true, true, true, true, true, true, true, true, true, true, true, false, false, false, false, false, false] (by kernel_rfl) (by kernel_rfl) (by kernel_rfl) (EO.append hS 66 66 3 8 3 (Kd.int .i64) A359 C360 x358 rfl (some ⟨g674, 0, none⟩) 1 l442 (Rd.own 0 3 rfl) l444 hl444 (fun A675 C676 => Ass.own 3 (Kd.int .i64) (some ⟨g674, 0, none⟩) 1 l442 :: Ass.deep 94 96 kS96 A669 C670 l438 :: Ass.box 91 g236 [.slice A355 x354.length C356, .slice A359 x358.length C360] :: Ass.own 3 (Kd.int .i64) A675 C676 l444 :: os) 34 (by kernel_rfl) (by kernel_rfl) (by kernel_rfl) (by kernel_rfl) h443 (fun _ _ => rfl) ?_)
                intro A675 C676 w hS
                have hC : Core B [] [Ro.sl (Kd.int .i64) (some ad434) C246 l244, Ro.sl (Kd.int .i64) A10 C11 l9] _ := ⟨_, _, hS⟩
                refine ⟨hC, ?_⟩
                refine ED.quick hN hF hC [17, 18] [3, 12, 13, 14, 19, 25, 34, 36] 4 [(3, .pointer (some ⟨g236, 0, none⟩)), (12, .slice (some ad434) l244.length C246), (13, .int .i64 (l244.length : Int)), (14, .int .i64 x362), (19, .pointer (some ⟨g236, 0, none⟩)), (25, .slice A669 l438.length C670), (34, .slice A675 l444.length C676), (36, .pointer (some ⟨g236, 0, none⟩))] #[true, true, true, true, true, true, true, true, true, true, true, true, true, true, true, true, true, true, true, false, false, false, false] (by kernel_rfl) (by kernel_rfl) ?_
                refine ED.one 19 3 #[true, true, true, true, true, true, true, true, true, true, true, true, true, true, true, true, true, true, true, true, false, false, false] (by kernel_rfl) (by kernel_rfl) (by kernel_rfl) (EO.storeBox (os' := Ass.own 3 (Kd.int .i64) (some ⟨g674, 0, none⟩) 1 l442 :: Ass.deep 94 96 kS96 A669 C670 l438 :: Ass.box 91 g236 [.slice A669 l438.length C670, .slice A359 x358.length C360] :: Ass.own 3 (Kd.int .i64) A675 C676 l444 :: os) hS 2 rfl 89 0 (.slice A669 l438.length C670) [.slice A669 l438.length C670, .slice A359 x358.length C360] (by kernel_rfl) (by kernel_rfl) (by kernel_rfl) (by kernel_rfl) (by kernel_rfl) (by kernel_rfl) rfl rfl ?_)
                intro w hS
                have hC : Core B [] [Ro.sl (Kd.int .i64) (some ad434) C246 l244, Ro.sl (Kd.int .i64) A10 C11 l9] _ := ⟨_, _, hS⟩
                refine ⟨hC, ?_⟩
                refine ED.quick hN hF hC [20, 21] [3, 12, 13, 14, 34, 38] 1 [(3, .pointer (some ⟨g236, 0, none⟩)), (12, .slice (some ad434) l244.length C246), (13, .int .i64 (l244.length : Int)), (14, .int .i64 x362), (34, .slice A675 l444.length C676), (38, .pointer (some ⟨g236, 1, none⟩))] #[true, true, true, true, true, true, true, true, true, true, true, true, true, true, true, true, true, true, true, true, true, true, false] (by kernel_rfl) (by kernel_rfl) ?_
                refine ED.one 22 0 #[true, true, true, true, true, true, true, true, true, true, true, true, true, true, true, true, true, true, true, true, true, true, true] (by kernel_rfl) (by kernel_rfl) (by kernel_rfl) (EO.storeBox (os' := Ass.own 3 (Kd.int .i64) (some ⟨g674, 0, none⟩) 1 l442 :: Ass.deep 94 96 kS96 A669 C670 l438 :: Ass.box 91 g236 [.slice A669 l438.length C670, .slice A675 l444.length C676] :: Ass.own 3 (Kd.int .i64) A675 C676 l444 :: os) hS 2 rfl 66 1 (.slice A675 l444.length C676) [.slice A669 l438.length C670, .slice A675 l444.length C676] (by kernel_rfl) (by kernel_rfl) (by kernel_rfl) (by kernel_rfl) (by kernel_rfl) (by kernel_rfl) rfl rfl ?_)
                intro w hS
                have hC : Core B [] [Ro.sl (Kd.int .i64) (some ad434) C246 l244, Ro.sl (Kd.int .i64) A10 C11 l9] _ := ⟨_, _, hS⟩
                refine ⟨hC, ?_⟩
                refine ED.done (by kernel_rfl) ?_
                refine EQ.to ?_
                refine EQ.keep [3, 12, 13, 14] [(3, .pointer (some ⟨g236, 0, none⟩)), (12, .slice (some ad434) l244.length C246), (13, .int .i64 (l244.length : Int)), (14, .int .i64 x362)] (by kernel_rfl) ?_
                exact fun a ha => ⟨(some ⟨g674, 0, none⟩), 1, A669, C670, A675, C676, ha, (hS.re [3, 3, 3, 3] [] rfl (sub_cons 0 rfl (sub_cons 1 rfl (sub_tail (sub_tail (sub_self))))))⟩
            · refine EO.Y (YO.loadBox hS 2 rfl 66 1 1 (.slice A359 x358.length C360) 29 (by kernel_rfl) (by kernel_rfl) (by kernel_rfl) (by kernel_rfl)) ?_
              have hC : Core B [] [Ro.sl (Kd.int .i64) (some ad434) C246 l244, Ro.sl (Kd.int .i64) A10 C11 l9] _ := ⟨_, _, hS⟩
              refine ⟨hC, ?_⟩
              refine ED.at' #[true, true, true, true, true, true, true, false, true, true, true, true, true, true, true, false, false, false, false, false, false, false, false] (by kernel_rfl) ?_
              refine ED.two 7 15 8 (by kernel_rfl) (by kernel_rfl) ?_ ?_
              · have hS := St.as (os' := Ass.deep 94 96 kS96 (some ⟨g667, 0, none⟩) 1 ([([] : List S96)] : List (List S96)) :: Ass.box 91 g236 [.slice A355 x354.length C356, .slice A359 x358.length C360] :: Ass.deep 94 96 kS96 A355 C356 x354 :: Ass.own 3 (Kd.int .i64) A359 C360 x358 :: os) (St.fold (B := B) (os := _) (rs := _) (et := 94) (et' := 96) (K := kS96) (hs := [(none, ([] : List S96).length, 0)]) (xs := ([([] : List S96)] : List (List S96))) ⟨rfl, trivial⟩ (St.re hS [0, 1] [] rfl sub_self)) rfl
                refine EO.appendDeep hS 89 89 24 2 0 kS96 A355 C356 x354 rfl (some ⟨g667, 0, none⟩) 1 ([([] : List S96)] : List (List S96)) rfl l438 hl438 (fun A677 C678 => Ass.deep 94 96 kS96 A677 C678 l438 :: Ass.box 91 g236 [.slice A355 x354.length C356, .slice A359 x358.length C360] :: Ass.own 3 (Kd.int .i64) A359 C360 x358 :: os) 25 (by kernel_rfl) (by kernel_rfl) (by kernel_rfl) (by kernel_rfl) h437 (fun _ _ => rfl) ?_
                intro A677 C678 w hS
                have hC : Core B [] [Ro.sl (Kd.int .i64) (some ad434) C246 l244, Ro.sl (Kd.int .i64) A10 C11 l9] _ := ⟨_, _, hS⟩
                refine ⟨hC, ?_⟩
                refine ED.at' #[true, true, true, true, true, true, true, true, true, true, true, true, true, true, true, false, false, false, false, false, false, false, false] (by kernel_rfl) ?_
                refine ED.one 15 7 #[true, true, true, true, true, true, true, true, true, true, true, true, true, true, true, true, false, false, false, false, false, false, false] (by kernel_rfl) (by kernel_rfl) (by kernel_rfl) (EO.lit hS (Kd.int .i64) 3 66 1 #[(0, .int .i64 (mn (mx (l244.getD x362.toNat 0) 0) 4096))] [.int .i64 (mn (mx (l244.getD x362.toNat 0) 0) 4096)] l442 33 (by kernel_rfl) (by kernel_rfl) (by kernel_rfl) (fun _ => (by kernel_rfl)) (by rw [hl442]; rfl) (by kernel_rfl) (fun w G hr => (by rw [hl442]; exact ⟨[.int .i64 (mn (mx (l244.getD x362.toNat 0) 0) 4096)], [], rfl, rfl, rfl⟩)) ?_)
                intro g679 w hS
                have hC : Core B [] [Ro.sl (Kd.int .i64) (some ad434) C246 l244, Ro.sl (Kd.int .i64) A10 C11 l9] _ := ⟨_, _, hS⟩
                refine ⟨hC, ?_⟩
                refine ED.one 16 6 #[true, true, true, true, true, true, true, true, true, true, true, true, true, true, true, true, true, false, false, false, false, false, false] (by kernel_rfl) (by kernel_rfl) (by kernel_rfl) (EO.append hS 66 66 3 8 3 (Kd.int .i64) A359 C360 x358 rfl (some ⟨g679, 0, none⟩) 1 l442 (Rd.own 0 3 rfl) l444 hl444 (fun A680 C681 => Ass.own 3 (Kd.int .i64) (some ⟨g679, 0, none⟩) 1 l442 :: Ass.deep 94 96 kS96 A677 C678 l438 :: Ass.box 91 g236 [.slice A355 x354.length C356, .slice A359 x358.length C360] :: Ass.own 3 (Kd.int .i64) A680 C681 l444 :: os) 34 (by kernel_rfl) (by kernel_rfl) (by kernel_rfl) (by kernel_rfl) h443 (fun _ _ => rfl) ?_)
                intro A680 C681 w hS
                have hC : Core B [] [Ro.sl (Kd.int .i64) (some ad434) C246 l244, Ro.sl (Kd.int .i64) A10 C11 l9] _ := ⟨_, _, hS⟩
                refine ⟨hC, ?_⟩
                refine ED.quick hN hF hC [17, 18] [3, 12, 13, 14, 19, 25, 34, 36] 4 [(3, .pointer (some ⟨g236, 0, none⟩)), (12, .slice (some ad434) l244.length C246), (13, .int .i64 (l244.length : Int)), (14, .int .i64 x362), (19, .pointer (some ⟨g236, 0, none⟩)), (25, .slice A677 l438.length C678), (34, .slice A680 l444.length C681), (36, .pointer (some ⟨g236, 0, none⟩))] #[true, true, true, true, true, true, true, true, true, true, true, true, true, true, true, true, true, true, true, false, false, false, false] (by kernel_rfl) (by kernel_rfl) ?_
                refine ED.one 19 3 #[true, true, true, true, true, true, true, true, true, true, true, true, true, true, true, true, true, true, true, true, false, false, false] (by kernel_rfl) (by kernel_rfl) (by kernel_rfl) (EO.storeBox (os' := Ass.own 3 (Kd.int .i64) (some ⟨g679, 0, none⟩) 1 l442 :: Ass.deep 94 96 kS96 A677 C678 l438 :: Ass.box 91 g236 [.slice A677 l438.length C678, .slice A359 x358.length C360] :: Ass.own 3 (Kd.int .i64) A680 C681 l444 :: os) hS 2 rfl 89 0 (.slice A677 l438.length C678) [.slice A677 l438.length C678, .slice A359 x358.length C360] (by kernel_rfl) (by kernel_rfl) (by kernel_rfl) (by kernel_rfl) (by kernel_rfl) (by kernel_rfl) rfl rfl ?_)
                intro w hS
                have hC : Core B [] [Ro.sl (Kd.int .i64) (some ad434) C246 l244, Ro.sl (Kd.int .i64) A10 C11 l9] _ := ⟨_, _, hS⟩
                refine ⟨hC, ?_⟩
                refine ED.quick hN hF hC [20, 21] [3, 12, 13, 14, 34, 38] 1 [(3, .pointer (some ⟨g236, 0, none⟩)), (12, .slice (some ad434) l244.length C246), (13, .int .i64 (l244.length : Int)), (14, .int .i64 x362), (34, .slice A680 l444.length C681), (38, .pointer (some ⟨g236, 1, none⟩))] #[true, true, true, true, true, true, true, true, true, true, true, true, true, true, true, true, true, true, true, true, true, true, false] (by kernel_rfl) (by kernel_rfl) ?_
                refine ED.one 22 0 #[true, true, true, true, true, true, true, true, true, true, true, true, true, true, true, true, true, true, true, true, true, true, true] (by kernel_rfl) (by kernel_rfl) (by kernel_rfl) (EO.storeBox (os' := Ass.own 3 (Kd.int .i64) (some ⟨g679, 0, none⟩) 1 l442 :: Ass.deep 94 96 kS96 A677 C678 l438 :: Ass.box 91 g236 [.slice A677 l438.length C678, .slice A680 l444.length C681] :: Ass.own 3 (Kd.int .i64) A680 C681 l444 :: os) hS 2 rfl 66 1 (.slice A680 l444.length C681) [.slice A677 l438.length C678, .slice A680 l444.length C681] (by kernel_rfl) (by kernel_rfl) (by kernel_rfl) (by kernel_rfl) (by kernel_rfl) (by kernel_rfl) rfl rfl ?_)
                intro w hS
                have hC : Core B [] [Ro.sl (Kd.int .i64) (some ad434) C246 l244, Ro.sl (Kd.int .i64) A10 C11 l9] _ := ⟨_, _, hS⟩
                refine ⟨hC, ?_⟩
                refine ED.done (by kernel_rfl) ?_
                refine EQ.to ?_
                refine EQ.keep [3, 12, 13, 14] [(3, .pointer (some ⟨g236, 0, none⟩)), (12, .slice (some ad434) l244.length C246), (13, .int .i64 (l244.length : Int)), (14, .int .i64 x362)] (by kernel_rfl) ?_
                exact fun a ha => ⟨(some ⟨g679, 0, none⟩), 1, A677, C678, A680, C681, ha, (hS.re [3, 3, 3, 3] [] rfl (sub_cons 0 rfl (sub_cons 1 rfl (sub_tail (sub_tail (sub_self))))))⟩
              · refine EO.lit hS (Kd.int .i64) 3 66 1 #[(0, .int .i64 (mn (mx (l244.getD x362.toNat 0) 0) 4096))] [.int .i64 (mn (mx (l244.getD x362.toNat 0) 0) 4096)] l442 33 (by kernel_rfl) (by kernel_rfl) (by kernel_rfl) (fun _ => (by kernel_rfl)) (by rw [hl442]; rfl) (by kernel_rfl) (fun w G hr => (by rw [hl442]; exact ⟨[.int .i64 (mn (mx (l244.getD x362.toNat 0) 0) 4096)], [], rfl, rfl, rfl⟩)) ?_
                intro g682 w hS
                have hC : Core B [] [Ro.sl (Kd.int .i64) (some ad434) C246 l244, Ro.sl (Kd.int .i64) A10 C11 l9] _ := ⟨_, _, hS⟩
                refine ⟨hC, ?_⟩
                refine ED.at' #[true, true, true, true, true, true, true, false, true, true, true, true, true, true, true, true, false, false, false, false, false, false, false] (by kernel_rfl) ?_
                have hS := St.as (os' := Ass.deep 94 96 kS96 (some ⟨g667, 0, none⟩) 1 ([([] : List S96)] : List (List S96)) :: Ass.own 3 (Kd.int .i64) (some ⟨g682, 0, none⟩) 1 l442 :: Ass.box 91 g236 [.slice A355 x354.length C356, .slice A359 x358.length C360] :: Ass.deep 94 96 kS96 A355 C356 x354 :: Ass.own 3 (Kd.int .i64) A359 C360 x358 :: os) (St.fold (B := B) (os := _) (rs := _) (et := 94) (et' := 96) (K := kS96) (hs := [(none, ([] : List S96).length, 0)]) (xs := ([([] : List S96)] : List (List S96))) ⟨rfl, trivial⟩ (St.re hS [1, 2] [] rfl sub_self)) rfl
                refine ED.one 7 7 #[true, true, true, true, true, true, true, true, true, true, true, true, true, true, true, true, false, false, false, false, false, false, false] (by kernel_rfl) (by kernel_rfl) (by kernel_rfl) (EO.appendDeep hS 89 89 24 3 0 kS96 A355 C356 x354 rfl (some ⟨g667, 0, none⟩) 1 ([([] : List S96)] : List (List S96)) rfl l438 hl438 (fun A683 C684 => Ass.deep 94 96 kS96 A683 C684 l438 :: Ass.own 3 (Kd.int .i64) (some ⟨g682, 0, none⟩) 1 l442 :: Ass.box 91 g236 [.slice A355 x354.length C356, .slice A359 x358.length C360] :: Ass.own 3 (Kd.int .i64) A359 C360 x358 :: os) 25 (by kernel_rfl) (by kernel_rfl) (by kernel_rfl) (by kernel_rfl) h437 (fun _ _ => rfl) ?_)
                intro A683 C684 w hS
                have hC : Core B [] [Ro.sl (Kd.int .i64) (some ad434) C246 l244, Ro.sl (Kd.int .i64) A10 C11 l9] _ := ⟨_, _, hS⟩
                refine ⟨hC, ?_⟩
                refine ED.one 16 6 #[true, true, true, true, true, true, true, true, true, true, true, true, true, true, true, true, true, false, false, false, false, false, false] (by kernel_rfl) (by kernel_rfl) (by kernel_rfl) (EO.append hS 66 66 3 8 3 (Kd.int .i64) A359 C360 x358 rfl (some ⟨g682, 0, none⟩) 1 l442 (Rd.own 1 3 rfl) l444 hl444 (fun A685 C686 => Ass.deep 94 96 kS96 A683 C684 l438 :: Ass.own 3 (Kd.int .i64) (some ⟨g682, 0, none⟩) 1 l442 :: Ass.box 91 g236 [.slice A355 x354.length C356, .slice A359 x358.length C360] :: Ass.own 3 (Kd.int .i64) A685 C686 l444 :: os) 34 (by kernel_rfl) (by kernel_rfl) (by kernel_rfl) (by kernel_rfl) h443 (fun _ _ => rfl) ?_)
                intro A685 C686 w hS
                have hC : Core B [] [Ro.sl (Kd.int .i64) (some ad434) C246 l244, Ro.sl (Kd.int .i64) A10 C11 l9] _ := ⟨_, _, hS⟩
                refine ⟨hC, ?_⟩
                refine ED.quick hN hF hC [17, 18] [3, 12, 13, 14, 19, 25, 34, 36] 4 [(3, .pointer (some ⟨g236, 0, none⟩)), (12, .slice (some ad434) l244.length C246), (13, .int .i64 (l244.length : Int)), (14, .int .i64 x362), (19, .pointer (some ⟨g236, 0, none⟩)), (25, .slice A683 l438.length C684), (34, .slice A685 l444.length C686), (36, .pointer (some ⟨g236, 0, none⟩))] #[true, true, true, true, true, true, true, true, true, true, true, true, true, true, true, true, true, true, true, false, false, false, false] (by kernel_rfl) (by kernel_rfl) ?_
                refine ED.one 19 3 #[true, true, true, true, true, true, true, true, true, true, true, true, true, true, true, true, true, true, true, true, false, false, false] (by kernel_rfl) (by kernel_rfl) (by kernel_rfl) (EO.storeBox (os' := Ass.deep 94 96 kS96 A683 C684 l438 :: Ass.own 3 (Kd.int .i64) (some ⟨g682, 0, none⟩) 1 l442 :: Ass.box 91 g236 [.slice A683 l438.length C684, .slice A359 x358.length C360] :: Ass.own 3 (Kd.int .i64) A685 C686 l444 :: os) hS 2 rfl 89 0 (.slice A683 l438.length C684) [.slice A683 l438.length C684, .slice A359 x358.length C360] (by kernel_rfl) (by kernel_rfl) (by kernel_rfl) (by kernel_rfl) (by kernel_rfl) (by kernel_rfl) rfl rfl ?_)
                intro w hS
                have hC : Core B [] [Ro.sl (Kd.int .i64) (some ad434) C246 l244, Ro.sl (Kd.int .i64) A10 C11 l9] _ := ⟨_, _, hS⟩
                refine ⟨hC, ?_⟩
                refine ED.quick hN hF hC [20, 21] [3, 12, 13, 14, 34, 38] 1 [(3, .pointer (some ⟨g236, 0, none⟩)), (12, .slice (some ad434) l244.length C246), (13, .int .i64 (l244.length : Int)), (14, .int .i64 x362), (34, .slice A685 l444.length C686), (38, .pointer (some ⟨g236, 1, none⟩))] #[true, true, true, true, true, true, true, true, true, true, true, true, true, true, true, true, true, true, true, true, true, true, false] (by kernel_rfl) (by kernel_rfl) ?_
                refine ED.one 22 0 #[true, true, true, true, true, true, true, true, true, true, true, true, true, true, true, true, true, true, true, true, true, true, true] (by kernel_rfl) (by kernel_rfl) (by kernel_rfl) (EO.storeBox (os' := Ass.deep 94 96 kS96 A683 C684 l438 :: Ass.own 3 (Kd.int .i64) (some ⟨g682, 0, none⟩) 1 l442 :: Ass.box 91 g236 [.slice A683 l438.length C684, .slice A685 l444.length C686] :: Ass.own 3 (Kd.int .i64) A685 C686 l444 :: os) hS 2 rfl 66 1 (.slice A685 l444.length C686) [.slice A683 l438.length C684, .slice A685 l444.length C686] (by kernel_rfl) (by kernel_rfl) (by kernel_rfl) (by kernel_rfl) (by kernel_rfl) (by kernel_rfl) rfl rfl ?_)
                intro w hS
                have hC : Core B [] [Ro.sl (Kd.int .i64) (some ad434) C246 l244, Ro.sl (Kd.int .i64) A10 C11 l9] _ := ⟨_, _, hS⟩
                refine ⟨hC, ?_⟩
                refine ED.done (by kernel_rfl) ?_
                refine EQ.to ?_
                refine EQ.keep [3, 12, 13, 14] [(3, .pointer (some ⟨g236, 0, none⟩)), (12, .slice (some ad434) l244.length C246), (13, .int .i64 (l244.length : Int)), (14, .int .i64 x362)] (by kernel_rfl) ?_
                exact fun a ha => ⟨(some ⟨g682, 0, none⟩), 1, A683, C684, A685, C686, ha, (hS.re [3, 3, 2, 3] [] rfl (sub_cons 0 rfl (sub_cons 1 rfl (sub_tail (sub_tail (sub_self))))))⟩
            · refine EO.lit hS (Kd.int .i64) 3 66 1 #[(0, .int .i64 (mn (mx (l244.getD x362.toNat 0) 0) 4096))] [.int .i64 (mn (mx (l244.getD x362.toNat 0) 0) 4096)] l442 33 (by kernel_rfl) (by kernel_rfl) (by kernel_rfl) (fun _ => (by kernel_rfl)) (by rw [hl442]; rfl) (by kernel_rfl) (fun w G hr => (by rw [hl442]; exact ⟨[.int .i64 (mn (mx (l244.getD x362.toNat 0) 0) 4096)], [], rfl, rfl, rfl⟩)) ?_
              intro g687 w hS
              have hC : Core B [] [Ro.sl (Kd.int .i64) (some ad434) C246 l244, Ro.sl (Kd.int .i64) A10 C11 l9] _ := ⟨_, _, hS⟩
              refine ⟨hC, ?_⟩
              refine ED.at' #[true, true, true, true, true, true, true, false, true, true, true, false, true, true, true, true, false, false, false, false, false, false, false] (by kernel_rfl) ?_
              refine ED.two 7 11 8 (by kernel_rfl) (by kernel_rfl) ?_ ?_
              · have hS := St.as (os' := Ass.deep 94 96 kS96 (some ⟨g667, 0, none⟩) 1 ([([] : List S96)] : List (List S96)) :: Ass.own 3 (Kd.int .i64) (some ⟨g687, 0, none⟩) 1 l442 :: Ass.box 91 g236 [.slice A355 x354.length C356, .slice A359 x358.length C360] :: Ass.deep 94 96 kS96 A355 C356 x354 :: Ass.own 3 (Kd.int .i64) A359 C360 x358 :: os) (St.fold (B := B) (os := _) (rs := _) (et := 94) (et' := 96) (K := kS96) (hs := [(none, ([] : List S96).length, 0)]) (xs := ([([] : List S96)] : List (List S96))) ⟨rfl, trivial⟩ (St.re hS [1, 2] [] rfl sub_self)) rfl
                refine EO.appendDeep hS 89 89 24 3 0 kS96 A355 C356 x354 rfl (some ⟨g667, 0, none⟩) 1 ([([] : List S96)] : List (List S96)) rfl l438 hl438 (fun A688 C689 => Ass.deep 94 96 kS96 A688 C689 l438 :: Ass.own 3 (Kd.int .i64) (some ⟨g687, 0, none⟩) 1 l442 :: Ass.box 91 g236 [.slice A355 x354.length C356, .slice A359 x358.length C360] :: Ass.own 3 (Kd.int .i64) A359 C360 x358 :: os) 25 (by kernel_rfl) (by kernel_rfl) (by kernel_rfl) (by kernel_rfl) h437 (fun _ _ => rfl) ?_
                intro A688 C689 w hS
                have hC : Core B [] [Ro.sl (Kd.int .i64) (some ad434) C246 l244, Ro.sl (Kd.int .i64) A10 C11 l9] _ := ⟨_, _, hS⟩
                refine ⟨hC, ?_⟩
                refine ED.at' #[true, true, true, true, true, true, true, true, true, true, true, false, true, true, true, true, false, false, false, false, false, false, false] (by kernel_rfl) ?_
                refine ED.one 11 7 #[true, true, true, true, true, true, true, true, true, true, true, true, true, true, true, true, false, false, false, false, false, false, false] (by kernel_rfl) (by kernel_rfl) (by kernel_rfl) (EO.Y (YO.loadBox hS 2 rfl 66 1 1 (.slice A359 x358.length C360) 29 (by kernel_rfl) (by kernel_rfl) (by kernel_rfl) (by kernel_rfl)) ?_)
                have hC : Core B [] [Ro.sl (Kd.int .i64) (some ad434) C246 l244, Ro.sl (Kd.int .i64) A10 C11 l9] _ := ⟨_, _, hS⟩
                refine ⟨hC, ?_⟩
                refine ED.one 16 6 #[true, true, true, true, true, true, true, true, true, true, true, true, true, true, true, true, true, false, false, false, false, false, false] (by kernel_rfl) (by kernel_rfl) (by kernel_rfl) (EO.append hS 66 66 3 8 3 (Kd.int .i64) A359 C360 x358 rfl (some ⟨g687, 0, none⟩) 1 l442 (Rd.own 1 3 rfl) l444 hl444 (fun A690 C691 => Ass.deep 94 96 kS96 A688 C689 l438 :: Ass.own 3 (Kd.int .i64) (some ⟨g687, 0, none⟩) 1 l442 :: Ass.box 91 g236 [.slice A355 x354.length C356, .slice A359 x358.length C360] :: Ass.own 3 (Kd.int .i64) A690 C691 l444 :: os) 34 (by kernel_rfl) (by kernel_rfl) (by kernel_rfl) (by kernel_rfl) h443 (fun _ _ => rfl) ?_)
                intro A690 C691 w hS
                have hC : Core B [] [Ro.sl (Kd.int .i64) (some ad434) C246 l244, Ro.sl (Kd.int .i64) A10 C11 l9] _ := ⟨_, _, hS⟩
                refine ⟨hC, ?_⟩
                refine ED.quick hN hF hC [17, 18] [3, 12, 13, 14, 19, 25, 34, 36] 4 [(3, .pointer (some ⟨g236, 0, none⟩)), (12, .slice (some ad434) l244.length C246), (13, .int .i64 (l244.length : Int)), (14, .int .i64 x362), (19, .pointer (some ⟨g236, 0, none⟩)), (25, .slice A688 l438.length C689), (34, .slice A690 l444.length C691), (36, .pointer (some ⟨g236, 0, none⟩))] #[true, true, true, true, true, true, true, true, true, true, true, true, true, true, true, true, true, true, true, false, false, false, false] (by kernel_rfl) (by kernel_rfl) ?_
                refine ED.one 19 3 #[true, true, true, true, true, true, true, true, true, true, true, true, true, true, true, true, true, true, true, true, false, false, false] (by kernel_rfl) (by kernel_rfl) (by kernel_rfl) (EO.storeBox (os' := Ass.deep 94 96 kS96 A688 C689 l438 :: Ass.own 3 (Kd.int .i64) (some ⟨g687, 0, none⟩) 1 l442 :: Ass.box 91 g236 [.slice A688 l438.length C689, .slice A359 x358.length C360] :: Ass.own 3 (Kd.int .i64) A690 C691 l444 :: os) hS 2 rfl 89 0 (.slice A688 l438.length C689) [.slice A688 l438.length C689, .slice A359 x358.length C360] (by kernel_rfl) (by kernel_rfl) (by kernel_rfl) (by kernel_rfl) (by kernel_rfl) (by kernel_rfl) rfl rfl ?_)
                intro w hS
                have hC : Core B [] [Ro.sl (Kd.int .i64) (some ad434) C246 l244, Ro.sl (Kd.int .i64) A10 C11 l9] _ := ⟨_, _, hS⟩
                refine ⟨hC, ?_⟩
                refine ED.quick hN hF hC [20, 21] [3, 12, 13, 14, 34, 38] 1 [(3, .pointer (some ⟨g236, 0, none⟩)), (12, .slice (some ad434) l244.length C246), (13, .int .i64 (l244.length : Int)), (14, .int .i64 x362), (34, .slice A690 l444.length C691), (38, .pointer (some ⟨g236, 1, none⟩))] #[true, true, true, true, true, true, true, true, true, true, true, true, true, true, true, true, true, true, true, true, true, true, false] (by kernel_rfl) (by kernel_rfl) ?_
                refine ED.one 22 0 #[true, true, true, true, true, true, true, true, true, true, true, true, true, true, true, true, true, true, true, true, true, true, true] (by kernel_rfl) (by kernel_rfl) (by kernel_rfl) (EO.storeBox (os' := Ass.deep 94 96 kS96 A688 C689 l438 :: Ass.own 3 (Kd.int .i64) (some ⟨g687, 0, none⟩) 1 l442 :: Ass.box 91 g236 [.slice A688 l438.length C689, .slice A690 l444.length C691] :: Ass.own 3 (Kd.int .i64) A690 C691 l444 :: os) hS 2 rfl 66 1 (.slice A690 l444.length C691) [.slice A688 l438.length C689, .slice A690 l444.length C691] (by kernel_rfl) (by kernel_rfl) (by kernel_rfl) (by kernel_rfl) (by kernel_rfl) (by kernel_rfl) rfl rfl ?_)
                intro w hS
                have hC : Core B [] [Ro.sl (Kd.int .i64) (some ad434) C246 l244, Ro.sl (Kd.int .i64) A10 C11 l9] _ := ⟨_, _, hS⟩
                refine ⟨hC, ?_⟩
                refine ED.done (by kernel_rfl) ?_
                refine EQ.to ?_
                refine EQ.keep [3, 12, 13, 14] [(3, .pointer (some ⟨g236, 0, none⟩)), (12, .slice (some ad434) l244.length C246), (13, .int .i64 (l244.length : Int)), (14, .int .i64 x362)] (by kernel_rfl) ?_
                exact fun a ha => ⟨(some ⟨g687, 0, none⟩), 1, A688, C689, A690, C691, ha, (hS.re [3, 3, 2, 3] [] rfl (sub_cons 0 rfl (sub_cons 1 rfl (sub_tail (sub_tail (sub_self))))))⟩
              · refine EO.Y (YO.loadBox hS 3 rfl 66 1 1 (.slice A359 x358.length C360) 29 (by kernel_rfl) (by kernel_rfl) (by kernel_rfl) (by kernel_rfl)) ?_
                have hC : Core B [] [Ro.sl (Kd.int .i64) (some ad434) C246 l244, Ro.sl (Kd.int .i64) A10 C11 l9] _ := ⟨_, _, hS⟩
                refine ⟨hC, ?_⟩
                refine ED.at' #[true, true, true, true, true, true, true, false, true, true, true, true, true, true, true, true, false, false, false, false, false, false, false] (by kernel_rfl) ?_
                have hS := St.as (os' := Ass.deep 94 96 kS96 (some ⟨g667, 0, none⟩) 1 ([([] : List S96)] : List (List S96)) :: Ass.own 3 (Kd.int .i64) (some ⟨g687, 0, none⟩) 1 l442 :: Ass.box 91 g236 [.slice A355 x354.length C356, .slice A359 x358.length C360] :: Ass.deep 94 96 kS96 A355 C356 x354 :: Ass.own 3 (Kd.int .i64) A359 C360 x358 :: os) (St.fold (B := B) (os := _) (rs := _) (et := 94) (et' := 96) (K := kS96) (hs := [(none, ([] : List S96).length, 0)]) (xs := ([([] : List S96)] : List (List S96))) ⟨rfl, trivial⟩ (St.re hS [1, 2] [] rfl sub_self)) rfl
                refine ED.one 7 7 #[true, true, true, true, true, true, true, true, true, true, true, true, true, true, true, true, false, false, false, false, false, false, false] (by kernel_rfl) (by kernel_rfl) (by kernel_rfl) (EO.appendDeep hS 89 89 24 3 0 kS96 A355 C356 x354 rfl (some ⟨g667, 0, none⟩) 1 ([([] : List S96)] : List (List S96)) rfl l438 hl438 (fun A692 C693 => Ass.deep 94 96 kS96 A692 C693 l438 :: Ass.own 3 (Kd.int .i64) (some ⟨g687, 0, none⟩) 1 l442 :: Ass.box 91 g236 [.slice A355 x354.length C356, .slice A359 x358.length C360] :: Ass.own 3 (Kd.int .i64) A359 C360 x358 :: os) 25 (by kernel_rfl) (by kernel_rfl) (by kernel_rfl) (by kernel_rfl) h437 (fun _ _ => rfl) ?_)
                intro A692 C693 w hS
                have hC : Core B [] [Ro.sl (Kd.int .i64) (some ad434) C246 l244, Ro.sl (Kd.int .i64) A10 C11 l9] _ := ⟨_, _, hS⟩
                refine ⟨hC, ?_⟩
                refine ED.one 16 6 #[true, true, true, true, true, true, true, true, true, true, true, true, true, true, true, true, true, false, false, false, false, false, false] (by kernel_rfl) (by kernel_rfl) (by kernel_rfl) (EO.append hS 66 66 3 8 3 (Kd.int .i64) A359 C360 x358 rfl (some ⟨g687, 0, none⟩) 1 l442 (Rd.own 1 3 rfl) l444 hl444 (fun A694 C695 => Ass.deep 94 96 kS96 A692 C693 l438 :: Ass.own 3 (Kd.int .i64) (some ⟨g687, 0, none⟩) 1 l442 :: Ass.box 91 g236 [.slice A355 x354.length C356, .slice A359 x358.length C360] :: Ass.own 3 (Kd.int .i64) A694 C695 l444 :: os) 34 (by kernel_rfl) (by kernel_rfl) (by kernel_rfl) (by kernel_rfl) h443 (fun _ _ => rfl) ?_)
                intro A694 C695 w hS
                have hC : Core B [] [Ro.sl (Kd.int .i64) (some ad434) C246 l244, Ro.sl (Kd.int .i64) A10 C11 l9] _ := ⟨_, _, hS⟩
                refine ⟨hC, ?_⟩
                refine ED.quick hN hF hC [17, 18] [3, 12, 13, 14, 19, 25, 34, 36] 4 [(3, .pointer (some ⟨g236, 0, none⟩)), (12, .slice (some ad434) l244.length C246), (13, .int .i64 (l244.length : Int)), (14, .int .i64 x362), (19, .pointer (some ⟨g236, 0, none⟩)), (25, .slice A692 l438.length C693), (34, .slice A694 l444.length C695), (36, .pointer (some ⟨g236, 0, none⟩))] #[true, true, true, true, true, true, true, true, true, true, true, true, true, true, true, true, true, true, true, false, false, false, false] (by kernel_rfl) (by kernel_rfl) ?_
                refine ED.one 19 3 #[true, true, true, true, true, true, true, true, true, true, true, true, true, true, true, true, true, true, true, true, false, false, false] (by kernel_rfl) (by kernel_rfl) (by kernel_rfl) (EO.storeBox (os' := Ass.deep 94 96 kS96 A692 C693 l438 :: Ass.own 3 (Kd.int .i64) (some ⟨g687, 0, none⟩) 1 l442 :: Ass.box 91 g236 [.slice A692 l438.length C693, .slice A359 x358.length C360] :: Ass.own 3 (Kd.int .i64) A694 C695 l444 :: os) hS 2 rfl 89 0 (.slice A692 l438.length C693) [.slice A692 l438.length C693, .slice A359 x358.length C360] (by kernel_rfl) (by kernel_rfl) (by kernel_rfl) (by kernel_rfl) (by kernel_rfl) (by kernel_rfl) rfl rfl ?_)
                intro w hS
                have hC : Core B [] [Ro.sl (Kd.int .i64) (some ad434) C246 l244, Ro.sl (Kd.int .i64) A10 C11 l9] _ := ⟨_, _, hS⟩
                refine ⟨hC, ?_⟩
                refine ED.quick hN hF hC [20, 21] [3, 12, 13, 14, 34, 38] 1 [(3, .pointer (some ⟨g236, 0, none⟩)), (12, .slice (some ad434) l244.length C246), (13, .int .i64 (l244.length : Int)), (14, .int .i64 x362), (34, .slice A694 l444.length C695), (38, .pointer (some ⟨g236, 1, none⟩))] #[true, true, true, true, true, true, true, true, true, true, true, true, true, true, true, true, true, true, true, true, true, true, false] (by kernel_rfl) (by kernel_rfl) ?_
                refine ED.one 22 0 #[true, true, true, true, true, true, true, true, true, true, true, true, true, true, true, true, true, true, true, true, true, true, true] (by kernel_rfl) (by kernel_rfl) (by kernel_rfl) (EO.storeBox (os' := Ass.deep 94 96 kS96 A692 C693 l438 :: Ass.own 3 (Kd.int .i64) (some ⟨g687, 0, none⟩) 1 l442 :: Ass.box 91 g236 [.slice A692 l438.length C693, .slice A694 l444.length C695] :: Ass.own 3 (Kd.int .i64) A694 C695 l444 :: os) hS 2 rfl 66 1 (.slice A694 l444.length C695) [.slice A692 l438.length C693, .slice A694 l444.length C695] (by kernel_rfl) (by kernel_rfl) (by kernel_rfl) (by kernel_rfl) (by kernel_rfl) (by kernel_rfl) rfl rfl ?_)
                intro w hS
                have hC : Core B [] [Ro.sl (Kd.int .i64) (some ad434) C246 l244, Ro.sl (Kd.int .i64) A10 C11 l9] _ := ⟨_, _, hS⟩
                refine ⟨hC, ?_⟩
                refine ED.done (by kernel_rfl) ?_
                refine EQ.to ?_
                refine EQ.keep [3, 12, 13, 14] [(3, .pointer (some ⟨g236, 0, none⟩)), (12, .slice (some ad434) l244.length C246), (13, .int .i64 (l244.length : Int)), (14, .int .i64 x362)] (by kernel_rfl) ?_
                exact fun a ha => ⟨(some ⟨g687, 0, none⟩), 1, A692, C693, A694, C695, ha, (hS.re [3, 3, 2, 3] [] rfl (sub_cons 0 rfl (sub_cons 1 rfl (sub_tail (sub_tail (sub_self))))))⟩
          · refine EO.Y (YO.loadBox hS 0 rfl 66 1 1 (.slice A359 x358.length C360) 29 (by kernel_rfl) (by kernel_rfl) (by kernel_rfl) (by kernel_rfl)) ?_
            have hC : Core B [] [Ro.sl (Kd.int .i64) (some ad434) C246 l244, Ro.sl (Kd.int .i64) A10 C11 l9] _ := ⟨_, _, hS⟩
            refine ⟨hC, ?_⟩
            refine ED.at' #[true, true, true, true, true, true, false, false, true, true, true, true, true, true, true, false, false, false, false, false, false, false, false] (by kernel_rfl) ?_
            refine ED.two 6 15 9 (by kernel_rfl) (by kernel_rfl) ?_ ?_
            · refine EO.lit (xs := ([(none, ([] : List S96).length, 0)] : List Hdr)) hS Kd.hdr 94 89 1 #[(0, .slice none ([] : List S96).length 0)] [.slice none ([] : List S96).length 0] 24 (by kernel_rfl) (by kernel_rfl) (by kernel_rfl) (fun _ => (by kernel_rfl)) rfl (by kernel_rfl) (fun w G hr => ⟨[.slice none ([] : List S96).length 0], [], rfl, rfl, rfl⟩) ?_
              intro g696 w hS
              have hS := St.nilO hS 96 kS96
              have hC : Core B [] [Ro.sl (Kd.int .i64) (some ad434) C246 l244, Ro.sl (Kd.int .i64) A10 C11 l9] _ := ⟨_, _, hS⟩
              refine ⟨hC, ?_⟩
              refine ED.at' #[true, true, true, true, true, true, true, false, true, true, true, true, true, true, true, false, false, false, false, false, false, false, false] (by kernel_rfl) ?_
              refine ED.two 7 15 8 (by kernel_rfl) (by kernel_rfl) ?_ ?_
              · have hS := St.as (os' := Ass.deep 94 96 kS96 (some ⟨g696, 0, none⟩) 1 ([([] : List S96)] : List (List S96)) :: Ass.box 91 g236 [.slice A355 x354.length C356, .slice A359 x358.length C360] :: Ass.deep 94 96 kS96 A355 C356 x354 :: Ass.own 3 (Kd.int .i64) A359 C360 x358 :: os) (St.fold (B := B) (os := _) (rs := _) (et := 94) (et' := 96) (K := kS96) (hs := [(none, ([] : List S96).length, 0)]) (xs := ([([] : List S96)] : List (List S96))) ⟨rfl, trivial⟩ (St.re hS [0, 1] [] rfl sub_self)) rfl
                refine EO.appendDeep hS 89 89 24 2 0 kS96 A355 C356 x354 rfl (some ⟨g696, 0, none⟩) 1 ([([] : List S96)] : List (List S96)) rfl l438 hl438 (fun A698 C699 => Ass.deep 94 96 kS96 A698 C699 l438 :: Ass.box 91 g236 [.slice A355 x354.length C356, .slice A359 x358.length C360] :: Ass.own 3 (Kd.int .i64) A359 C360 x358 :: os) 25 (by kernel_rfl) (by kernel_rfl) (by kernel_rfl) (by kernel_rfl) h437 (fun _ _ => rfl) ?_
                intro A698 C699 w hS
                have hC : Core B [] [Ro.sl (Kd.int .i64) (some ad434) C246 l244, Ro.sl (Kd.int .i64) A10 C11 l9] _ := ⟨_, _, hS⟩
                refine ⟨hC, ?_⟩
                refine ED.at' #[true, true, true, true, true, true, true, true, true, true, true, true, true, true, true, false, false, false, false, false, false, false, false] (by kernel_rfl) ?_
                refine ED.one 15 7 #[true, true, true, true, true, true, true, true, true, true, true, true, true, true, true, true, false, false, false, false, false, false, false] (by kernel_rfl) (by kernel_rfl) (by kernel_rfl) (EO.lit hS (Kd.int .i64) 3 66 1 #[(0, .int .i64 (mn (mx (l244.getD x362.toNat 0) 0) 4096))] [.int .i64 (mn (mx (l244.getD x362.toNat 0) 0) 4096)] l442 33 (by kernel_rfl) (by kernel_rfl) (by kernel_rfl) (fun _ => (by kernel_rfl)) (by rw [hl442]; rfl) (by kernel_rfl) (fun w G hr => (by rw [hl442]; exact ⟨[.int .i64 (mn (mx (l244.getD x362.toNat 0) 0) 4096)], [], rfl, rfl, rfl⟩)) ?_)
                intro g700 w hS
                have hC : Core B [] [Ro.sl (Kd.int .i64) (some ad434) C246 l244, Ro.sl (Kd.int .i64) A10 C11 l9] _ := ⟨_, _, hS⟩
                refine ⟨hC, ?_⟩
                refine ED.one 16 6 #[true, true, true, true, true, true, true, true, true, true, true, true, true, true, true, true, true, false, false, false, false, false, false] (by kernel_rfl) (by kernel_rfl) (by kernel_rfl) (EO.append hS 66 66 3 8 3 (Kd.int .i64) A359 C360 x358 rfl (some ⟨g700, 0, none⟩) 1 l442 (Rd.own 0 3 rfl) l444 hl444 (fun A701 C702 => Ass.own 3 (Kd.int .i64) (some ⟨g700, 0, none⟩) 1 l442 :: Ass.deep 94 96 kS96 A698 C699 l438 :: Ass.box 91 g236 [.slice A355 x354.length C356, .slice A359 x358.length C360] :: Ass.own 3 (Kd.int .i64) A701 C702 l444 :: os) 34 (by kernel_rfl) (by kernel_rfl) (by kernel_rfl) (by kernel_rfl) h443 (fun _ _ => rfl) ?_)
                intro A701 C702 w hS
                have hC : Core B [] [Ro.sl (Kd.int .i64) (some ad434) C246 l244, Ro.sl (Kd.int .i64) A10 C11 l9] _ := ⟨_, _, hS⟩
                refine ⟨hC, ?_⟩
                refine ED.quick hN hF hC [17, 18] [3, 12, 13, 14, 19, 25, 34, 36] 4 [(3, .pointer (some ⟨g236, 0, none⟩)), (12, .slice (some ad434) l244.length C246), (13, .int .i64 (l244.length : Int)), (14, .int .i64 x362), (19, .pointer (some ⟨g236, 0, none⟩)), (25, .slice A698 l438.length C699), (34, .slice A701 l444.length C702), (36, .pointer (some ⟨g236, 0, none⟩))] #[true, true, true, true, true, true, true, true, true, true, true, true, true, true, true, true, true, true, true, false, false, false, false] (by kernel_rfl) (by kernel_rfl) ?_
                refine ED.one 19 3 #[true, true, true, true, true, true, true, true, true, true, true, true, true, true, true, true, true, true, true, true, false, false, false] (by kernel_rfl) (by kernel_rfl) (by kernel_rfl) (EO.storeBox (os' := Ass.own 3 (Kd.int .i64) (some ⟨g700, 0, none⟩) 1 l442 :: Ass.deep 94 96 kS96 A698 C699 l438 :: Ass.box 91 g236 [.slice A698 l438.length C699, .slice A359 x358.length C360] :: Ass.own 3 (Kd.int .i64) A701 C702 l444 :: os) hS 2 rfl 89 0 (.slice A698 l438.length C699) [.slice A698 l438.length C699, .slice A359 x358.length C360] (by kernel_rfl) (by kernel_rfl) (by kernel_rfl) (by kernel_rfl) (by kernel_rfl) (by kernel_rfl) rfl rfl ?_)
                intro w hS
                have hC : Core B [] [Ro.sl (Kd.int .i64) (some ad434) C246 l244, Ro.sl (Kd.int .i64) A10 C11 l9] _ := ⟨_, _, hS⟩
                refine ⟨hC, ?_⟩
                refine ED.quick hN hF hC [20, 21] [3, 12, 13, 14, 34, 38] 1 [(3, .pointer (some ⟨g236, 0, none⟩)), (12, .slice (some ad434) l244.length C246), (13, .int .i64 (l244.length : Int)), (14, .int .i64 x362), (34, .slice A701 l444.length C702), (38, .pointer (some ⟨g236, 1, none⟩))] #[true, true, true, true, true, true, true, true, true, true, true, true, true, true, true, true, true, true, true, true, true, true, false] (by kernel_rfl) (by kernel_rfl) ?_
                refine ED.one 22 0 #[true, true, true, true, true, true, true, true, true, true, true, true, true, true, true, true, true, true, true, true, true, true, true] (by kernel_rfl) (by kernel_rfl) (by kernel_rfl) (EO.storeBox (os' := Ass.own 3 (Kd.int .i64) (some ⟨g700, 0, none⟩) 1 l442 :: Ass.deep 94 96 kS96 A698 C699 l438 :: Ass.box 91 g236 [.slice A698 l438.length C699, .slice A701 l444.length C702] :: Ass.own 3 (Kd.int .i64) A701 C702 l444 :: os) hS 2 rfl 66 1 (.slice A701 l444.length C702) [.slice A698 l438.length C699, .slice A701 l444.length C702] (by kernel_rfl) (by kernel_rfl) (by kernel_rfl) (by kernel_rfl) (by kernel_rfl) (by kernel_rfl) rfl rfl ?_)
                intro w hS
                have hC : Core B [] [Ro.sl (Kd.int .i64) (some ad434) C246 l244, Ro.sl (Kd.int .i64) A10 C11 l9] _ := ⟨_, _, hS⟩
                refine ⟨hC, ?_⟩
                refine ED.done (by kernel_rfl) ?_
                refine EQ.to ?_
                refine EQ.keep [3, 12, 13, 14] [(3, .pointer (some ⟨g236, 0, none⟩)), (12, .slice (some ad434) l244.length C246), (13, .int .i64 (l244.length : Int)), (14, .int .i64 x362)] (by kernel_rfl) ?_
                exact fun a ha => ⟨(some ⟨g700, 0, none⟩), 1, A698, C699, A701, C702, ha, (hS.re [3, 3, 3, 3] [] rfl (sub_cons 0 rfl (sub_cons 1 rfl (sub_tail (sub_tail (sub_self))))))⟩
              · refine EO.lit hS (Kd.int .i64) 3 66 1 #[(0, .int .i64 (mn (mx (l244.getD x362.toNat 0) 0) 4096))] [.int .i64 (mn (mx (l244.getD x362.toNat 0) 0) 4096)] l442 33 (by kernel_rfl) (by kernel_rfl) (by kernel_rfl) (fun _ => (by kernel_rfl)) (by rw [hl442]; rfl) (by kernel_rfl) (fun w G hr => (by rw [hl442]; exact ⟨[.int .i64 (mn (mx (l244.getD x362.toNat 0) 0) 4096)], [], rfl, rfl, rfl⟩)) ?_
                intro g703 w hS
                have hC : Core B [] [Ro.sl (Kd.int .i64) (some ad434) C246 l244, Ro.sl (Kd.int .i64) A10 C11 l9] _ := ⟨_, _, hS⟩
                refine ⟨hC, ?_⟩
                refine ED.at' #[true, true, true, true, true, true, true, false, true, true, true, true, true, true, true, true, false, false, false, false, false, false, false] (by kernel_rfl) ?_
                have hS := St.as (os' := Ass.deep 94 96 kS96 (some ⟨g696, 0, none⟩) 1 ([([] : List S96)] : List (List S96)) :: Ass.own 3 (Kd.int .i64) (some ⟨g703, 0, none⟩) 1 l442 :: Ass.box 91 g236 [.slice A355 x354.length C356, .slice A359 x358.length C360] :: Ass.deep 94 96 kS96 A355 C356 x354 :: Ass.own 3 (Kd.int .i64) A359 C360 x358 :: os) (St.fold (B := B) (os := _) (rs := _) (et := 94) (et' := 96) (K := kS96) (hs := [(none, ([] : List S96).length, 0)]) (xs := ([([] : List S96)] : List (List S96))) ⟨rfl, trivial⟩ (St.re hS [1, 2] [] rfl sub_self)) rfl
                refine ED.one 7 7 #[true, true, true, true, true, true, true, true, true, true, true, true, true, true, true, true, false, false, false, false, false, false, false] (by kernel_rfl) (by kernel_rfl) (by kernel_rfl) (EO.appendDeep hS 89 89 24 3 0 kS96 A355 C356 x354 rfl (some ⟨g696, 0, none⟩) 1 ([([] : List S96)] : List (List S96)) rfl l438 hl438 (fun A704 C705 => Ass.deep 94 96 kS96 A704 C705 l438 :: Ass.own 3 (Kd.int .i64) (some ⟨g703, 0, none⟩) 1 l442 :: Ass.box 91 g236 [.slice A355 x354.length C356, .slice A359 x358.length C360] :: Ass.own 3 (Kd.int .i64) A359 C360 x358 :: os) 25 (by kernel_rfl) (by kernel_rfl) (by kernel_rfl) (by kernel_rfl) h437 (fun _ _ => rfl) ?_)
                intro A704 C705 w hS
                have hC : Core B [] [Ro.sl (Kd.int .i64) (some ad434) C246 l244, Ro.sl (Kd.int .i64) A10 C11 l9] _ := ⟨_, _, hS⟩
                refine ⟨hC, ?_⟩
                refine ED.one 16 6 #[true, true, true, true, true, true, true, true, true, true, true, true, true, true, true, true, true, false, false, false, false, false, false] (by kernel_rfl) (by kernel_rfl) (by kernel_rfl) (EO.append hS 66 66 3 8 3 (Kd.int .i64) A359 C360 x358 rfl (some ⟨g703, 0, none⟩) 1 l442 (Rd.own 1 3 rfl) l444 hl444 (fun A706 C707 => Ass.deep 94 96 kS96 A704 C705 l438 :: Ass.own 3 (Kd.int .i64) (some ⟨g703, 0, none⟩) 1 l442 :: Ass.box 91 g236 [.slice A355 x354.length C356, .slice A359 x358.length C360] :: Ass.own 3 (Kd.int .i64) A706 C707 l444 :: os) 34 (by kernel_rfl) (by kernel_rfl) (by kernel_rfl) (by kernel_rfl) h443 (fun _ _ => rfl) ?_)
                intro A706 C707 w hS
                have hC : Core B [] [Ro.sl (Kd.int .i64) (some ad434) C246 l244, Ro.sl (Kd.int .i64) A10 C11 l9] _ := ⟨_, _, hS⟩
                refine ⟨hC, ?_⟩
                refine ED.quick hN hF hC [17, 18] [3, 12, 13, 14, 19, 25, 34, 36] 4 [(3, .pointer (some ⟨g236, 0, none⟩)), (12, .slice (some ad434) l244.length C246), (13, .int .i64 (l244.length : Int)), (14, .int .i64 x362), (19, .pointer (some ⟨g236, 0, none⟩)), (25, .slice A704 l438.length C705), (34, .slice A706 l444.length C707), (36, .pointer (some ⟨g236, 0, none⟩))] #[true, true, true, true, true, true, true, true, true, true, true, true, true, true, true, true, true, true, true, false, false, false, false] (by kernel_rfl) (by kernel_rfl) ?_
                refine ED.one 19 3 #[true, true, true, true, true, true, true, true, true, true, true, true, true, true, true, true, true, true, true, true, false, false, false] (by kernel_rfl) (by kernel_rfl) (by kernel_rfl) (EO.storeBox (os' := Ass.deep 94 96 kS96 A704 C705 l438 :: Ass.own 3 (Kd.int .i64) (some ⟨g703, 0, none⟩) 1 l442 :: Ass.box 91 g236 [.slice A704 l438.length C705, .slice A359 x358.length C360] :: Ass.own 3 (Kd.int .i64) A706 C707 l444 :: os) hS 2 rfl 89 0 (.slice A704 l438.length C705) [.slice A704 l438.length C705, .slice A359 x358.length C360] (by kernel_rfl) (by kernel_rfl) (by kernel_rfl) (by kernel_rfl) (by kernel_rfl) (by kernel_rfl) rfl rfl ?_)
                intro w hS
                have hC : Core B [] [Ro.sl (Kd.int .i64) (some ad434) C246 l244, Ro.sl (Kd.int .i64) A10 C11 l9] _ := ⟨_, _, hS⟩
                refine ⟨hC, ?_⟩
                refine ED.quick hN hF hC [20, 21] [3, 12, 13, 14, 34, 38] 1 [(3, .pointer (some ⟨g236, 0, none⟩)), (12, .slice (some ad434) l244.length C246), (13, .int .i64 (l244.length : Int)), (14, .int .i64 x362), (34, .slice A706 l444.length C707), (38, .pointer (some ⟨g236, 1, none⟩))] #[true, true, true, true, true, true, true, true, true, true, true, true, true, true, true, true, true, true, true, true, true, true, false] (by kernel_rfl) (by kernel_rfl) ?_
                refine ED.one 22 0 #[true, true, true, true, true, true, true, true, true, true, true, true, true, true, true, true, true, true, true, true, true, true, true] (by kernel_rfl) (by kernel_rfl) (by kernel_rfl) (EO.storeBox (os' := Ass.deep 94 96 kS96 A704 C705 l438 :: Ass.own 3 (Kd.int .i64) (some ⟨g703, 0, none⟩) 1 l442 :: Ass.box 91 g236 [.slice A704 l438.length C705, .slice A706 l444.length C707] :: Ass.own 3 (Kd.int .i64) A706 C707 l444 :: os) hS 2 rfl 66 1 (.slice A706 l444.length C707) [.slice A704 l438.length C705, .slice A706 l444.length C707] (by kernel_rfl) (by kernel_rfl) (by kernel_rfl) (by kernel_rfl) (by kernel_rfl) (by kernel_rfl) rfl rfl ?_)
                intro w hS
                have hC : Core B [] [Ro.sl (Kd.int .i64) (some ad434) C246 l244, Ro.sl (Kd.int .i64) A10 C11 l9] _ := ⟨_, _, hS⟩
                refine ⟨hC, ?_⟩
                refine ED.done (by kernel_rfl) ?_
                refine EQ.to ?_
                refine EQ.keep [3, 12, 13, 14] [(3, .pointer (some ⟨g236, 0, none⟩)), (12, .slice (some ad434) l244.length C246), (13, .int .i64 (l244.length : Int)), (14, .int .i64 x362)] (by kernel_rfl) ?_
                exact fun a ha => ⟨(some ⟨g703, 0, none⟩), 1, A704, C705, A706, C707, ha, (hS.re [3, 3, 2, 3] [] rfl (sub_cons 0 rfl (sub_cons 1 rfl (sub_tail (sub_tail (sub_self))))))⟩
            · refine EO.lit hS (Kd.int .i64) 3 66 1 #[(0, .int .i64 (mn (mx (l244.getD x362.toNat 0) 0) 4096))] [.int .i64 (mn (mx (l244.getD x362.toNat 0) 0) 4096)] l442 33 (by kernel_rfl) (by kernel_rfl) (by kernel_rfl) (fun _ => (by kernel_rfl)) (by rw [hl442]; rfl) (by kernel_rfl) (fun w G hr => (by rw [hl442]; exact ⟨[.int .i64 (mn (mx (l244.getD x362.toNat 0) 0) 4096)], [], rfl, rfl, rfl⟩)) ?_
              intro g708 w hS
              have hC : Core B [] [Ro.sl (Kd.int .i64) (some ad434) C246 l244, Ro.sl (Kd.int .i64) A10 C11 l9] _ := ⟨_, _, hS⟩
              refine ⟨hC, ?_⟩
              refine ED.at' #[true, true, true, true, true, true, false, false, true, true, true, true, true, true, true, true, false, false, false, false, false, false, false] (by kernel_rfl) ?_
              refine ED.one 6 8 #[true, true, true, true, true, true, true, false, true, true, true, true, true, true, true, true, false, false, false, false, false, false, false] (by kernel_rfl) (by kernel_rfl) (by kernel_rfl) (EO.lit (xs := ([(none, ([] : List S96).length, 0)] : List Hdr)) hS Kd.hdr 94 89 1 #[(0, .slice none ([] : List S96).length 0)] [.slice none ([] : List S96).length 0] 24 (by kernel_rfl) (by kernel_rfl) (by kernel_rfl) (fun _ => (by kernel_rfl)) rfl (by kernel_rfl) (fun w G hr => ⟨[.slice none ([] : List S96).length 0], [], rfl, rfl, rfl⟩) ?_)
              intro g709 w hS
              have hS := St.nilO hS 96 kS96
              have hC : Core B [] [Ro.sl (Kd.int .i64) (some ad434) C246 l244, Ro.sl (Kd.int .i64) A10 C11 l9] _ := ⟨_, _, hS⟩
              refine ⟨hC, ?_⟩
              have hS := St.as (os' := Ass.deep 94 96 kS96 (some ⟨g709, 0, none⟩) 1 ([([] : List S96)] : List (List S96)) :: Ass.own 3 (Kd.int .i64) (some ⟨g708, 0, none⟩) 1 l442 :: Ass.box 91 g236 [.slice A355 x354.length C356, .slice A359 x358.length C360] :: Ass.deep 94 96 kS96 A355 C356 x354 :: Ass.own 3 (Kd.int .i64) A359 C360 x358 :: os) (St.fold (B := B) (os := _) (rs := _) (et := 94) (et' := 96) (K := kS96) (hs := [(none, ([] : List S96).length, 0)]) (xs := ([([] : List S96)] : List (List S96))) ⟨rfl, trivial⟩ (St.re hS [0, 1] [] rfl sub_self)) rfl
              refine ED.one 7 7 #[true, true, true, true, true, true, true, true, true, true, true, true, true, true, true, true, false, false, false, false, false, false, false] (by kernel_rfl) (by kernel_rfl) (by kernel_rfl) (EO.appendDeep hS 89 89 24 3 0 kS96 A355 C356 x354 rfl (some ⟨g709, 0, none⟩) 1 ([([] : List S96)] : List (List S96)) rfl l438 hl438 (fun A711 C712 => Ass.deep 94 96 kS96 A711 C712 l438 :: Ass.own 3 (Kd.int .i64) (some ⟨g708, 0, none⟩) 1 l442 :: Ass.box 91 g236 [.slice A355 x354.length C356, .slice A359 x358.length C360] :: Ass.own 3 (Kd.int .i64) A359 C360 x358 :: os) 25 (by kernel_rfl) (by kernel_rfl) (by kernel_rfl) (by kernel_rfl) h437 (fun _ _ => rfl) ?_)
              intro A711 C712 w hS
              have hC : Core B [] [Ro.sl (Kd.int .i64) (some ad434) C246 l244, Ro.sl (Kd.int .i64) A10 C11 l9] _ := ⟨_, _, hS⟩
              refine ⟨hC, ?_⟩
              refine ED.one 16 6 #[true, true, true, true, true, true, true, true, true, true, true, true, true, true, true, true, true, false, false, false, false, false, false] (by kernel_rfl) (by kernel_rfl) (by kernel_rfl) (EO.append hS 66 66 3 8 3 (Kd.int .i64) A359 C360 x358 rfl (some ⟨g708, 0, none⟩) 1 l442 (Rd.own 1 3 rfl) l444 hl444 (fun A713 C714 => Ass.deep 94 96 kS96 A711 C712 l438 :: Ass.own 3 (Kd.int .i64) (some ⟨g708, 0, none⟩) 1 l442 :: Ass.box 91 g236 [.slice A355 x354.length C356, .slice A359 x358.length C360] :: Ass.own 3 (Kd.int .i64) A713 C714 l444 :: os) 34 (by kernel_rfl) (by kernel_rfl) (by kernel_rfl) (by kernel_rfl) h443 (fun _ _ => rfl) ?_)
              intro A713 C714 w hS
              have hC : Core B [] [Ro.sl (Kd.int .i64) (some ad434) C246 l244, Ro.sl (Kd.int .i64) A10 C11 l9] _ := ⟨_, _, hS⟩
              refine ⟨hC, ?_⟩
              refine ED.quick hN hF hC [17, 18] [3, 12, 13, 14, 19, 25, 34, 36] 4 [(3, .pointer (some ⟨g236, 0, none⟩)), (12, .slice (some ad434) l244.length C246), (13, .int .i64 (l244.length : Int)), (14, .int .i64 x362), (19, .pointer (some ⟨g236, 0, none⟩)), (25, .slice A711 l438.length C712), (34, .slice A713 l444.length C714), (36, .pointer (some ⟨g236, 0, none⟩))] #[true, true, true, true, true, true, true, true, true, true, true, true, true, true, true, true, true, true, true, false, false, false, false] (by kernel_rfl) (by kernel_rfl) ?_
              refine ED.one 19 3 #[true, true, true, true, true, true, true, true, true, true, true, true, true, true, true, true, true, true, true, true, false, false, false] (by kernel_rfl) (by kernel_rfl) (by kernel_rfl) (EO.storeBox (os' := Ass.deep 94 96 kS96 A711 C712 l438 :: Ass.own 3 (Kd.int .i64) (some ⟨g708, 0, none⟩) 1 l442 :: Ass.box 91 g236 [.slice A711 l438.length C712, .slice A359 x358.length C360] :: Ass.own 3 (Kd.int .i64) A713 C714 l444 :: os) hS 2 rfl 89 0 (.slice A711 l438.length C712) [.slice A711 l438.length C712, .slice A359 x358.length C360] (by kernel_rfl) (by kernel_rfl) (by kernel_rfl) (by kernel_rfl) (by kernel_rfl) (by kernel_rfl) rfl rfl ?_)
              intro w hS
              have hC : Core B [] [Ro.sl (Kd.int .i64) (some ad434) C246 l244, Ro.sl (Kd.int .i64) A10 C11 l9] _ := ⟨_, _, hS⟩
              refine ⟨hC, ?_⟩
              refine ED.quick hN hF hC [20, 21] [3, 12, 13, 14, 34, 38] 1 [(3, .pointer (some ⟨g236, 0, none⟩)), (12, .slice (some ad434) l244.length C246), (13, .int .i64 (l244.length : Int)), (14, .int .i64 x362), (34, .slice A713 l444.length C714), (38, .pointer (some ⟨g236, 1, none⟩))] #[true, true, true, true, true, true, true, true, true, true, true, true, true, true, true, true, true, true, true, true, true, true, false] (by kernel_rfl) (by kernel_rfl) ?_
              refine ED.one 22 0 #[true, true, true, true, true, true, true, true, true, true, true, true, true, true, true, true, true, true, true, true, true, true, true] (by kernel_rfl) (by kernel_rfl) (by kernel_rfl) (EO.storeBox (os' := Ass.deep 94 96 kS96 A711 C712 l438 :: Ass.own 3 (Kd.int .i64) (some ⟨g708, 0, none⟩) 1 l442 :: Ass.box 91 g236 [.slice A711 l438.length C712, .slice A713 l444.length C714] :: Ass.own 3 (Kd.int .i64) A713 C714 l444 :: os) hS 2 rfl 66 1 (.slice A713 l444.length C714) [.slice A711 l438.length C712, .slice A713 l444.length C714] (by kernel_rfl) (by kernel_rfl) (by kernel_rfl) (by kernel_rfl) (by kernel_rfl) (by kernel_rfl) rfl rfl ?_)
              intro w hS
              have hC : Core B [] [Ro.sl (Kd.int .i64) (some ad434) C246 l244, Ro.sl (Kd.int .i64) A10 C11 l9] _ := ⟨_, _, hS⟩
              refine ⟨hC, ?_⟩
              refine ED.done (by kernel_rfl) ?_
              refine EQ.to ?_
              refine EQ.keep [3, 12, 13, 14] [(3, .pointer (some ⟨g236, 0, none⟩)), (12, .slice (some ad434) l244.length C246), (13, .int .i64 (l244.length : Int)), (14, .int .i64 x362)] (by kernel_rfl) ?_
              exact fun a ha => ⟨(some ⟨g708, 0, none⟩), 1, A711, C712, A713, C714, ha, (hS.re [3, 3, 2, 3] [] rfl (sub_cons 0 rfl (sub_cons 1 rfl (sub_tail (sub_tail (sub_self))))))⟩
          · refine EO.lit hS (Kd.int .i64) 3 66 1 #[(0, .int .i64 (mn (mx (l244.getD x362.toNat 0) 0) 4096))] [.int .i64 (mn (mx (l244.getD x362.toNat 0) 0) 4096)] l442 33 (by kernel_rfl) (by kernel_rfl) (by kernel_rfl) (fun _ => (by kernel_rfl)) (by rw [hl442]; rfl) (by kernel_rfl) (fun w G hr => (by rw [hl442]; exact ⟨[.int .i64 (mn (mx (l244.getD x362.toNat 0) 0) 4096)], [], rfl, rfl, rfl⟩)) ?_
            intro g715 w hS
            have hC : Core B [] [Ro.sl (Kd.int .i64) (some ad434) C246 l244, Ro.sl (Kd.int .i64) A10 C11 l9] _ := ⟨_, _, hS⟩
            refine ⟨hC, ?_⟩
            refine ED.at' #[true, true, true, true, true, true, false, false, true, true, true, false, true, true, true, true, false, false, false, false, false, false, false] (by kernel_rfl) ?_
            refine ED.two 6 11 9 (by kernel_rfl) (by kernel_rfl) ?_ ?_
            · refine EO.lit (xs := ([(none, ([] : List S96).length, 0)] : List Hdr)) hS Kd.hdr 94 89 1 #[(0, .slice none ([] : List S96).length 0)] [.slice none ([] : List S96).length 0] 24 (by kernel_rfl) (by kernel_rfl) (by kernel_rfl) (fun _ => (by kernel_rfl)) rfl (by kernel_rfl) (fun w G hr => ⟨[.slice none ([] : List S96).length 0], [], rfl, rfl, rfl⟩) ?_
              intro g716 w hS
              have hS := St.nilO hS 96 kS96
              have hC : Core B [] [Ro.sl (Kd.int .i64) (some ad434) C246 l244, Ro.sl (Kd.int .i64) A10 C11 l9] _ := ⟨_, _, hS⟩
              refine ⟨hC, ?_⟩
              refine ED.at' #[true, true, true, true, true, true, true, false, true, true, true, false, true, true, true, true, false, false, false, false, false, false, false] (by kernel_rfl) ?_
              refine ED.two 7 11 8 (by kernel_rfl) (by kernel_rfl) ?_ ?_
              · have hS := St.as (os' := Ass.deep 94 96 kS96 (some ⟨g716, 0, none⟩) 1 ([([] : List S96)] : List (List S96)) :: Ass.own 3 (Kd.int .i64) (some ⟨g715, 0, none⟩) 1 l442 :: Ass.box 91 g236 [.slice A355 x354.length C356, .slice A359 x358.length C360] :: Ass.deep 94 96 kS96 A355 C356 x354 :: Ass.own 3 (Kd.int .i64) A359 C360 x358 :: os) (St.fold (B := B) (os := _) (rs := _) (et := 94) (et' := 96) (K := kS96) (hs := [(none, ([] : List S96).length, 0)]) (xs := ([([] : List S96)] : List (List S96))) ⟨rfl, trivial⟩ (St.re hS [0, 1] [] rfl sub_self)) rfl
                refine EO.appendDeep hS 89 89 24 3 0 kS96 A355 C356 x354 rfl (some ⟨g716, 0, none⟩) 1 ([([] : List S96)] : List (List S96)) rfl l438 hl438 (fun A718 C719 => Ass.deep 94 96 kS96 A718 C719 l438 :: Ass.own 3 (Kd.int .i64) (some ⟨g715, 0, none⟩) 1 l442 :: Ass.box 91 g236 [.slice A355 x354.length C356, .slice A359 x358.length C360] :: Ass.own 3 (Kd.int .i64) A359 C360 x358 :: os) 25 (by kernel_rfl) (by kernel_rfl) (by kernel_rfl) (by kernel_rfl) h437 (fun _ _ => rfl) ?_
                intro A718 C719 w hS
                have hC : Core B [] [Ro.sl (Kd.int .i64) (some ad434) C246 l244, Ro.sl (Kd.int .i64) A10 C11 l9] _ := ⟨_, _, hS⟩
                refine ⟨hC, ?_⟩
                refine ED.at' #[true, true, true, true, true, true, true, true, true, true, true, false, true, true, true, true, false, false, false, false, false, false, false] (by kernel_rfl) ?_
                refine ED.one 11 7 #[true, true, true, true, true, true, true, true, true, true, true, true, true, true, true, true, false, false, false, false, false, false, false] (by kernel_rfl) (by kernel_rfl) (by kernel_rfl) (EO.Y (YO.loadBox hS 2 rfl 66 1 1 (.slice A359 x358.length C360) 29 (by kernel_rfl) (by kernel_rfl) (by kernel_rfl) (by kernel_rfl)) ?_)
                have hC : Core B [] [Ro.sl (Kd.int .i64) (some ad434) C246 l244, Ro.sl (Kd.int .i64) A10 C11 l9] _ := ⟨_, _, hS⟩
                refine ⟨hC, ?_⟩
                refine ED.one 16 6 #[true, true, true, true, true, true, true, true, true, true, true, true, true, true, true, true, true, false, false, false, false, false, false] (by kernel_rfl) (by kernel_rfl) (by kernel_rfl) (EO.append hS 66 66 3 8 3 (Kd.int .i64) A359 C360 x358 rfl (some ⟨g715, 0, none⟩) 1 l442 (Rd.own 1 3 rfl) l444 hl444 (fun A720 C721 => Ass.deep 94 96 kS96 A718 C719 l438 :: Ass.own 3 (Kd.int .i64) (some ⟨g715, 0, none⟩) 1 l442 :: Ass.box 91 g236 [.slice A355 x354.length C356, .slice A359 x358.length C360] :: Ass.own 3 (Kd.int .i64) A720 C721 l444 :: os) 34 (by kernel_rfl) (by kernel_rfl) (by kernel_rfl) (by kernel_rfl) h443 (fun _ _ => rfl) ?_)
                intro A720 C721 w hS
                have hC : Core B [] [Ro.sl (Kd.int .i64) (some ad434) C246 l244, Ro.sl (Kd.int .i64) A10 C11 l9] _ := ⟨_, _, hS⟩
                refine ⟨hC, ?_⟩
                refine ED.quick hN hF hC [17, 18] [3, 12, 13, 14, 19, 25, 34, 36] 4 [(3, .pointer (some ⟨g236, 0, none⟩)), (12, .slice (some ad434) l244.length C246), (13, .int .i64 (l244.length : Int)), (14, .int .i64 x362), (19, .pointer (some ⟨g236, 0, none⟩)), (25, .slice A718 l438.length C719), (34, .slice A720 l444.length C721), (36, .pointer (some ⟨g236, 0, none⟩))] #[true, true, true, true, true, true, true, true, true, true, true, true, true, true, true, true, true, true, true, false, false, false, false] (by kernel_rfl) (by kernel_rfl) ?_
                refine ED.one 19 3 #[true, true, true, true, true, true, true, true, true, true, true, true, true, true, true, true, true, true, true, true, false, false, false] (by kernel_rfl) (by kernel_rfl) (by kernel_rfl) (EO.storeBox (os' := Ass.deep 94 96 kS96 A718 C719 l438 :: Ass.own 3 (Kd.int .i64) (some ⟨g715, 0, none⟩) 1 l442 :: Ass.box 91 g236 [.slice A718 l438.length C719, .slice A359 x358.length C360] :: Ass.own 3 (Kd.int .i64) A720 C721 l444 :: os) hS 2 rfl 89 0 (.slice A718 l438.length C719) [.slice A718 l438.length C719, .slice A359 x358.length C360] (by kernel_rfl) (by kernel_rfl) (by kernel_rfl) (by kernel_rfl) (by kernel_rfl) (by kernel_rfl) rfl rfl ?_)
                intro w hS
                have hC : Core B [] [Ro.sl (Kd.int .i64) (some ad434) C246 l244, Ro.sl (Kd.int .i64) A10 C11 l9] _ := ⟨_, _, hS⟩
                refine ⟨hC, ?_⟩
                refine ED.quick hN hF hC [20, 21] [3, 12, 13, 14, 34, 38] 1 [(3, .pointer (some ⟨g236, 0, none⟩)), (12, .slice (some ad434) l244.length C246), (13, .int .i64 (l244.length : Int)), (14, .int .i64 x362), (34, .slice A720 l444.length C721), (38, .pointer (some ⟨g236, 1, none⟩))] #[true, true, true, true, true, true, true, true, true, true, true, true, true, true, true, true, true, true, true, true, true, true, false] (by kernel_rfl) (by kernel_rfl) ?_
                refine ED.one 22 0 #[true, true, true, true, true, true, true, true, true, true, true, true, true, true, true, true, true, true, true, true, true, true, true] (by kernel_rfl) (by kernel_rfl) (by kernel_rfl) (EO.storeBox (os' := Ass.deep 94 96 kS96 A718 C719 l438 :: Ass.own 3 (Kd.int .i64) (some ⟨g715, 0, none⟩) 1 l442 :: Ass.box 91 g236 [.slice A718 l438.length C719, .slice A720 l444.length C721] :: Ass.own 3 (Kd.int .i64) A720 C721 l444 :: os) hS 2 rfl 66 1 (.slice A720 l444.length C721) [.slice A718 l438.length C719, .slice A720 l444.length C721] (by kernel_rfl) (by kernel_rfl) (by kernel_rfl) (by kernel_rfl) (by kernel_rfl) (by kernel_rfl) rfl rfl ?_)
                intro w hS
                have hC : Core B [] [Ro.sl (Kd.int .i64) (some ad434) C246 l244, Ro.sl (Kd.int .i64) A10 C11 l9] _ := ⟨_, _, hS⟩
                refine ⟨hC, ?_⟩
                refine ED.done (by kernel_rfl) ?_
                refine EQ.to ?_
                refine EQ.keep [3, 12, 13, 14] [(3, .pointer (some ⟨g236, 0, none⟩)), (12, .slice (some ad434) l244.length C246), (13, .int .i64 (l244.length : Int)), (14, .int .i64 x362)] (by kernel_rfl) ?_
                exact fun a ha => ⟨(some ⟨g715, 0, none⟩), 1, A718, C719, A720, C721, ha, (hS.re [3, 3, 2, 3] [] rfl (sub_cons 0 rfl (sub_cons 1 rfl (sub_tail (sub_tail (sub_self))))))⟩
              · refine EO.Y (YO.loadBox hS 3 rfl 66 1 1 (.slice A359 x358.length C360) 29 (by kernel_rfl) (by kernel_rfl) (by kernel_rfl) (by kernel_rfl)) ?_
                have hC : Core B [] [Ro.sl (Kd.int .i64) (some ad434) C246 l244, Ro.sl (Kd.int .i64) A10 C11 l9] _ := ⟨_, _, hS⟩
                refine ⟨hC, ?_⟩
                refine ED.at' #[true, true, true, true, true, true, true, false, true, true, true, true, true, true, true, true, false, false, false, false, false, false, false] (by kernel_rfl) ?_
                have hS := St.as (os' := Ass.deep 94 96 kS96 (some ⟨g716, 0, none⟩) 1 ([([] : List S96)] : List (List S96)) :: Ass.own 3 (Kd.int .i64) (some ⟨g715, 0, none⟩) 1 l442 :: Ass.box 91 g236 [.slice A355 x354.length C356, .slice A359 x358.length C360] :: Ass.deep 94 96 kS96 A355 C356 x354 :: Ass.own 3 (Kd.int .i64) A359 C360 x358 :: os) (St.fold (B := B) (os := _) (rs := _) (et := 94) (et' := 96) (K := kS96) (hs := [(none, ([] : List S96).length, 0)]) (xs := ([([] : List S96)] : List (List S96))) ⟨rfl, trivial⟩ (St.re hS [0, 1] [] rfl sub_self)) rfl
                refine ED.one 7 7 #[true, true, true, true, true, true, true, true, true, true, true, true, true, true, true, true, false, false, false, false, false, false, false] (by kernel_rfl) (by kernel_rfl) (by kernel_rfl) (EO.appendDeep hS 89 89 24 3 0 kS96 A355 C356 x354 rfl (some ⟨g716, 0, none⟩) 1 ([([] : List S96)] : List (List S96)) rfl l438 hl438 (fun A722 C723 => Ass.deep 94 96 kS96 A722 C723 l438 :: Ass.own 3 (Kd.int .i64) (some ⟨g715, 0, none⟩) 1 l442 :: Ass.box 91 g236 [.slice A355 x354.length C356, .slice A359 x358.length C360] :: Ass.own 3 (Kd.int .i64) A359 C360 x358 :: os) 25 (by kernel_rfl) (by kernel_rfl) (by kernel_rfl) (by kernel_rfl) h437 (fun _ _ => rfl) ?_)
                intro A722 C723 w hS
                have hC : Core B [] [Ro.sl (Kd.int .i64) (some ad434) C246 l244, Ro.sl (Kd.int .i64) A10 C11 l9] _ := ⟨_, _, hS⟩
                refine ⟨hC, ?_⟩
                refine ED.one 16 6 #[true, true, true, true, true, true, true, true, true, true, true, true, true, true, true, true, true, false, false, false, false, false, false] (by kernel_rfl) (by kernel_rfl) (by kernel_rfl) (EO.append hS 66 66 3 8 3 (Kd.int .i64) A359 C360 x358 rfl (some ⟨g715, 0, none⟩) 1 l442 (Rd.own 1 3 rfl) l444 hl444 (fun A724 C725 => Ass.deep 94 96 kS96 A722 C723 l438 :: Ass.own 3 (Kd.int .i64) (some ⟨g715, 0, none⟩) 1 l442 :: Ass.box 91 g236 [.slice A355 x354.length C356, .slice A359 x358.length C360] :: Ass.own 3 (Kd.int .i64) A724 C725 l444 :: os) 34 (by kernel_rfl) (by kernel_rfl) (by kernel_rfl) (by kernel_rfl) h443 (fun _ _ => rfl) ?_)
                intro A724 C725 w hS
                have hC : Core B [] [Ro.sl (Kd.int .i64) (some ad434) C246 l244, Ro.sl (Kd.int .i64) A10 C11 l9] _ := ⟨_, _, hS⟩
                refine ⟨hC, ?_⟩
                refine ED.quick hN hF hC [17, 18] [3, 12, 13, 14, 19, 25, 34, 36] 4 [(3, .pointer (some ⟨g236, 0, none⟩)), (12, .slice (some ad434) l244.length C246), (13, .int .i64 (l244.length : Int)), (14, .int .i64 x362), (19, .pointer (some ⟨g236, 0, none⟩)), (25, .slice A722 l438.length C723), (34, .slice A724 l444.length C725), (36, .pointer (some ⟨g236, 0, none⟩))] #[true, true, true, true, true, true, true, true, true, true, true, true, true, true, true, true, true, true, true, false, false, false, false] (by kernel_rfl) (by kernel_rfl) ?_
                refine ED.one 19 3 #[true, true, true, true, true, true, true, true, true, true, true, true, true, true, true, true, true, true, true, true, false, false, false] (by kernel_rfl) (by kernel_rfl) (by kernel_rfl) (EO.storeBox (os' := Ass.deep 94 96 kS96 A722 C723 l438 :: Ass.own 3 (Kd.int .i64) (some ⟨g715, 0, none⟩) 1 l442 :: Ass.box 91 g236 [.slice A722 l438.length C723, .slice A359 x358.length C360] :: Ass.own 3 (Kd.int .i64) A724 C725 l444 :: os) hS 2 rfl 89 0 (.slice A722 l438.length C723) [.slice A722 l438.length C723, .slice A359 x358.length C360] (by kernel_rfl) (by kernel_rfl) (by kernel_rfl) (by kernel_rfl) (by kernel_rfl) (by kernel_rfl) rfl rfl ?_)
                intro w hS
                have hC : Core B [] [Ro.sl (Kd.int .i64) (some ad434) C246 l244, Ro.sl (Kd.int .i64) A10 C11 l9] _ := ⟨_, _, hS⟩
                refine ⟨hC, ?_⟩
                refine ED.quick hN hF hC [20, 21] [3, 12, 13, 14, 34, 38] 1 [(3, .pointer (some ⟨g236, 0, none⟩)), (12, .slice (some ad434) l244.length C246), (13, .int .i64 (l244.length : Int)), (14, .int .i64 x362), (34, .slice A724 l444.length C725), (38, .pointer (some ⟨g236, 1, none⟩))] #[true, true, true, true, true, true, true, true, true, true, true, true, true, true, true, true, true, true, true, true, true, true, false] (by kernel_rfl) (by kernel_rfl) ?_
                refine ED.one 22 0 #[true, true, true, true, true, true, true, true, true, true, true, true, true, true, true, true, true, true, true, true, true, true, true] (by kernel_rfl) (by kernel_rfl) (by kernel_rfl) (EO.storeBox (os' := Ass.deep 94 96 kS96 A722 C723 l438 :: Ass.own 3 (Kd.int .i64) (some ⟨g715, 0, none⟩) 1 l442 :: Ass.box 91 g236 [.slice A722 l438.length C723, .slice A724 l444.length C725] :: Ass.own 3 (Kd.int .i64) A724 C725 l444 :: os) hS 2 rfl 66 1 (.slice A724 l444.length C725) [.slice A722 l438.length C723, .slice A724 l444.length C725] (by kernel_rfl) (by kernel_rfl) (by kernel_rfl) (by kernel_rfl) (by kernel_rfl) (by kernel_rfl) rfl rfl ?_)
                intro w hS
                have hC : Core B [] [Ro.sl (Kd.int .i64) (some ad434) C246 l244, Ro.sl (Kd.int .i64) A10 C11 l9] _ := ⟨_, _, hS⟩
                refine ⟨hC, ?_⟩
                refine ED.done (by kernel_rfl) ?_
                refine EQ.to ?_
                refine EQ.keep [3, 12, 13, 14] [(3, .pointer (some ⟨g236, 0, none⟩)), (12, .slice (some ad434) l244.length C246), (13, .int .i64 (l244.length : Int)), (14, .int .i64 x362)] (by kernel_rfl) ?_
                exact fun a ha => ⟨(some ⟨g715, 0, none⟩), 1, A722, C723, A724, C725, ha, (hS.re [3, 3, 2, 3] [] rfl (sub_cons 0 rfl (sub_cons 1 rfl (sub_tail (sub_tail (sub_self))))))⟩
            · refine EO.Y (YO.loadBox hS 1 rfl 66 1 1 (.slice A359 x358.length C360) 29 (by kernel_rfl) (by kernel_rfl) (by kernel_rfl) (by kernel_rfl)) ?_
              have hC : Core B [] [Ro.sl (Kd.int .i64) (some ad434) C246 l244, Ro.sl (Kd.int .i64) A10 C11 l9] _ := ⟨_, _, hS⟩
              refine ⟨hC, ?_⟩
              refine ED.at' #[true, true, true, true, true, true, false, false, true, true, true, true, true, true, true, true, false, false, false, false, false, false, false] (by kernel_rfl) ?_
              refine ED.one 6 8 #[true, true, true, true, true, true, true, false, true, true, true, true, true, true, true, true, false, false, false, false, false, false, false] (by kernel_rfl) (by kernel_rfl) (by kernel_rfl) (EO.lit (xs := ([(none, ([] : List S96).length, 0)] : List Hdr)) hS Kd.hdr 94 89 1 #[(0, .slice none ([] : List S96).length 0)] [.slice none ([] : List S96).length 0] 24 (by kernel_rfl) (by kernel_rfl) (by kernel_rfl) (fun _ => (by kernel_rfl)) rfl (by kernel_rfl) (fun w G hr => ⟨[.slice none ([] : List S96).length 0], [], rfl, rfl, rfl⟩) ?_)
              intro g726 w hS
              have hS := St.nilO hS 96 kS96
              have hC : Core B [] [Ro.sl (Kd.int .i64) (some ad434) C246 l244, Ro.sl (Kd.int .i64) A10 C11 l9] _ := ⟨_, _, hS⟩
              refine ⟨hC, ?_⟩
              have hS := St.as (os' := Ass.deep 94 96 kS96 (some ⟨g726, 0, none⟩) 1 ([([] : List S96)] : List (List S96)) :: Ass.own 3 (Kd.int .i64) (some ⟨g715, 0, none⟩) 1 l442 :: Ass.box 91 g236 [.slice A355 x354.length C356, .slice A359 x358.length C360] :: Ass.deep 94 96 kS96 A355 C356 x354 :: Ass.own 3 (Kd.int .i64) A359 C360 x358 :: os) (St.fold (B := B) (os := _) (rs := _) (et := 94) (et' := 96) (K := kS96) (hs := [(none, ([] : List S96).length, 0)]) (xs := ([([] : List S96)] : List (List S96))) ⟨rfl, trivial⟩ (St.re hS [0, 1] [] rfl sub_self)) rfl
              refine ED.one 7 7 #[true, true, true, true, true, true, true, true, true, true, true, true, true, true, true, true, false, false, false, false, false, false, false] (by kernel_rfl) (by kernel_rfl) (by kernel_rfl) (EO.appendDeep hS 89 89 24 3 0 kS96 A355 C356 x354 rfl (some ⟨g726, 0, none⟩) 1 ([([] : List S96)] : List (List S96)) rfl l438 hl438 (fun A728 C729 => Ass.deep 94 96 kS96 A728 C729 l438 :: Ass.own 3 (Kd.int .i64) (some ⟨g715, 0, none⟩) 1 l442 :: Ass.box 91 g236 [.slice A355 x354.length C356, .slice A359 x358.length C360] :: Ass.own 3 (Kd.int .i64) A359 C360 x358 :: os) 25 (by kernel_rfl) (by kernel_rfl) (by kernel_rfl) (by kernel_rfl) h437 (fun _ _ => rfl) ?_)
              intro A728 C729 w hS
              have hC : Core B [] [Ro.sl (Kd.int .i64) (some ad434) C246 l244, Ro.sl (Kd.int .i64) A10 C11 l9] _ := ⟨_, _, hS⟩
              refine ⟨hC, ?_⟩
              refine ED.one 16 6 #[true, true, true, true, true, true, true, true, true, true, true, true, true, true, true, true, true, false, false, false, false, false, false] (by kernel_rfl) (by kernel_rfl) (by kernel_rfl) (EO.append hS 66 66 3 8 3 (Kd.int .i64) A359 C360 x358 rfl (some ⟨g715, 0, none⟩) 1 l442 (Rd.own 1 3 rfl) l444 hl444 (fun A730 C731 => Ass.deep 94 96 kS96 A728 C729 l438 :: Ass.own 3 (Kd.int .i64) (some ⟨g715, 0, none⟩) 1 l442 :: Ass.box 91 g236 [.slice A355 x354.length C356, .slice A359 x358.length C360] :: Ass.own 3 (Kd.int .i64) A730 C731 l444 :: os) 34 (by kernel_rfl) (by kernel_rfl) (by kernel_rfl) (by kernel_rfl) h443 (fun _ _ => rfl) ?_)
              intro A730 C731 w hS
              have hC : Core B [] [Ro.sl (Kd.int .i64) (some ad434) C246 l244, Ro.sl (Kd.int .i64) A10 C11 l9] _ := ⟨_, _, hS⟩
              refine ⟨hC, ?_⟩
              refine ED.quick hN hF hC [17, 18] [3, 12, 13, 14, 19, 25, 34, 36] 4 [(3, .pointer (some ⟨g236, 0, none⟩)), (12, .slice (some ad434) l244.length C246), (13, .int .i64 (l244.length : Int)), (14, .int .i64 x362), (19, .pointer (some ⟨g236, 0, none⟩)), (25, .slice A728 l438.length C729), (34, .slice A730 l444.length C731), (36, .pointer (some ⟨g236, 0, none⟩))] #[true, true, true, true, true, true, true, true, true, true, true, true, true, true, true, true, true, true, true, false, false, false, false] (by kernel_rfl) (by kernel_rfl) ?_
              refine ED.one 19 3 #[true, true, true, true, true, true, true, true, true, true, true, true, true, true, true, true, true, true, true, true, false, false, false] (by kernel_rfl) (by kernel_rfl) (by kernel_rfl) (EO.storeBox (os' := Ass.deep 94 96 kS96 A728 C729 l438 :: Ass.own 3 (Kd.int .i64) (some ⟨g715, 0, none⟩) 1 l442 :: Ass.box 91 g236 [.slice A728 l438.length C729, .slice A359 x358.length C360] :: Ass.own 3 (Kd.int .i64) A730 C731 l444 :: os) hS 2 rfl 89 0 (.slice A728 l438.length C729) [.slice A728 l438.length C729, .slice A359 x358.length C360] (by kernel_rfl) (by kernel_rfl) (by kernel_rfl) (by kernel_rfl) (by kernel_rfl) (by kernel_rfl) rfl rfl ?_)
              intro w hS
              have hC : Core B [] [Ro.sl (Kd.int .i64) (some ad434) C246 l244, Ro.sl (Kd.int .i64) A10 C11 l9] _ := ⟨_, _, hS⟩
              refine ⟨hC, ?_⟩
              refine ED.quick hN hF hC [20, 21] [3, 12, 13, 14, 34, 38] 1 [(3, .pointer (some ⟨g236, 0, none⟩)), (12, .slice (some ad434) l244.length C246), (13, .int .i64 (l244.length : Int)), (14, .int .i64 x362), (34, .slice A730 l444.length C731), (38, .pointer (some ⟨g236, 1, none⟩))] #[true, true, true, true, true, true, true, true, true, true, true, true, true, true, true, true, true, true, true, true, true, true, false] (by kernel_rfl) (by kernel_rfl) ?_
              refine ED.one 22 0 #[true, true, true, true, true, true, true, true, true, true, true, true, true, true, true, true, true, true, true, true, true, true, true] (by kernel_rfl) (by kernel_rfl) (by kernel_rfl) (EO.storeBox (os' := Ass.deep 94 96 kS96 A728 C729 l438 :: Ass.own 3 (Kd.int .i64) (some ⟨g715, 0, none⟩) 1 l442 :: Ass.box 91 g236 [.slice A728 l438.length C729, .slice A730 l444.length C731] :: Ass.own 3 (Kd.int .i64) A730 C731 l444 :: os) hS 2 rfl 66 1 (.slice A730 l444.length C731) [.slice A728 l438.length C729, .slice A730 l444.length C731] (by kernel_rfl) (by kernel_rfl) (by kernel_rfl) (by kernel_rfl) (by kernel_rfl) (by kernel_rfl) rfl rfl ?_)
              intro w hS
              have hC : Core B [] [Ro.sl (Kd.int .i64) (some ad434) C246 l244, Ro.sl (Kd.int .i64) A10 C11 l9] _ := ⟨_, _, hS⟩
              refine ⟨hC, ?_⟩
              refine ED.done (by kernel_rfl) ?_
              refine EQ.to ?_
              refine EQ.keep [3, 12, 13, 14] [(3, .pointer (some ⟨g236, 0, none⟩)), (12, .slice (some ad434) l244.length C246), (13, .int .i64 (l244.length : Int)), (14, .int .i64 x362)] (by kernel_rfl) ?_
              exact fun a ha => ⟨(some ⟨g715, 0, none⟩), 1, A728, C729, A730, C731, ha, (hS.re [3, 3, 2, 3] [] rfl (sub_cons 0 rfl (sub_cons 1 rfl (sub_tail (sub_tail (sub_self))))))⟩
        · refine EO.lit (xs := ([(none, ([] : List S96).length, 0)] : List Hdr)) hS Kd.hdr 94 89 1 #[(0, .slice none ([] : List S96).length 0)] [.slice none ([] : List S96).length 0] 24 (by kernel_rfl) (by kernel_rfl) (by kernel_rfl) (fun _ => (by kernel_rfl)) rfl (by kernel_rfl) (fun w G hr => ⟨[.slice none ([] : List S96).length 0], [], rfl, rfl, rfl⟩) ?_
          intro g732 w hS
          have hS := St.nilO hS 96 kS96
          have hC : Core B [] [Ro.sl (Kd.int .i64) (some ad434) C246 l244, Ro.sl (Kd.int .i64) A10 C11 l9] _ := ⟨_, _, hS⟩
          refine ⟨hC, ?_⟩
          refine ED.at' #[true, true, true, true, true, false, true, false, true, true, true, false, true, true, true, false, false, false, false, false, false, false, false] (by kernel_rfl) ?_
          refine ED.many 5 [11, 15] 10 (by kernel_rfl) (by kernel_rfl) (Each.cons ?_ (Each.cons ?_ (Each.cons ?_ Each.nil)))
          · refine EO.Y (YO.loadBox hS 2 rfl 89 0 1 (.slice A355 x354.length C356) 23 (by kernel_rfl) (by kernel_rfl) (by kernel_rfl) (by kernel_rfl)) ?_
            have hC : Core B [] [Ro.sl (Kd.int .i64) (some ad434) C246 l244, Ro.sl (Kd.int .i64) A10 C11 l9] _ := ⟨_, _, hS⟩
            refine ⟨hC, ?_⟩
            refine ED.at' #[true, true, true, true, true, true, true, false, true, true, true, false, true, true, true, false, false, false, false, false, false, false, false] (by kernel_rfl) ?_
            refine ED.many 7 [11, 15] 9 (by kernel_rfl) (by kernel_rfl) (Each.cons ?_ (Each.cons ?_ (Each.cons ?_ Each.nil)))
            · have hS := St.as (os' := Ass.deep 94 96 kS96 (some ⟨g732, 0, none⟩) 1 ([([] : List S96)] : List (List S96)) :: Ass.box 91 g236 [.slice A355 x354.length C356, .slice A359 x358.length C360] :: Ass.deep 94 96 kS96 A355 C356 x354 :: Ass.own 3 (Kd.int .i64) A359 C360 x358 :: os) (St.fold (B := B) (os := _) (rs := _) (et := 94) (et' := 96) (K := kS96) (hs := [(none, ([] : List S96).length, 0)]) (xs := ([([] : List S96)] : List (List S96))) ⟨rfl, trivial⟩ (St.re hS [0, 1] [] rfl sub_self)) rfl
              refine EO.appendDeep hS 89 89 24 2 0 kS96 A355 C356 x354 rfl (some ⟨g732, 0, none⟩) 1 ([([] : List S96)] : List (List S96)) rfl l438 hl438 (fun A734 C735 => Ass.deep 94 96 kS96 A734 C735 l438 :: Ass.box 91 g236 [.slice A355 x354.length C356, .slice A359 x358.length C360] :: Ass.own 3 (Kd.int .i64) A359 C360 x358 :: os) 25 (by kernel_rfl) (by kernel_rfl) (by kernel_rfl) (by kernel_rfl) h437 (fun _ _ => rfl) ?_
              intro A734 C735 w hS
              have hC : Core B [] [Ro.sl (Kd.int .i64) (some ad434) C246 l244, Ro.sl (Kd.int .i64) A10 C11 l9] _ := ⟨_, _, hS⟩
              refine ⟨hC, ?_⟩
              refine ED.at' #[true, true, true, true, true, true, true, true, true, true, true, false, true, true, true, false, false, false, false, false, false, false, false] (by kernel_rfl) ?_
              refine ED.two 11 15 8 (by kernel_rfl) (by kernel_rfl) ?_ ?_
              · refine EO.Y (YO.loadBox hS 1 rfl 66 1 1 (.slice A359 x358.length C360) 29 (by kernel_rfl) (by kernel_rfl) (by kernel_rfl) (by kernel_rfl)) ?_
                have hC : Core B [] [Ro.sl (Kd.int .i64) (some ad434) C246 l244, Ro.sl (Kd.int .i64) A10 C11 l9] _ := ⟨_, _, hS⟩
                refine ⟨hC, ?_⟩
                refine ED.at' #[true, true, true, true, true, true, true, true, true, true, true, true, true, true, true, false, false, false, false, false, false, false, false] (by kernel_rfl) ?_
                refine ED.one 15 7 #[true, true, true, true, true, true, true, true, true, true, true, true, true, true, true, true, false, false, false, false, false, false, false] (by kernel_rfl) (by kernel_rfl) (by kernel_rfl) (EO.lit hS (Kd.int .i64) 3 66 1 #[(0, .int .i64 (mn (mx (l244.getD x362.toNat 0) 0) 4096))] [.int .i64 (mn (mx (l244.getD x362.toNat 0) 0) 4096)] l442 33 (by kernel_rfl) (by kernel_rfl) (by kernel_rfl) (fun _ => (by kernel_rfl)) (by rw [hl442]; rfl) (by kernel_rfl) (fun w G hr => (by rw [hl442]; exact ⟨[.int .i64 (mn (mx (l244.getD x362.toNat 0) 0) 4096)], [], rfl, rfl, rfl⟩)) ?_)
                intro g736 w hS
                have hC : Core B [] [Ro.sl (Kd.int .i64) (some ad434) C246 l244, Ro.sl (Kd.int .i64) A10 C11 l9] _ := ⟨_, _, hS⟩
                refine ⟨hC, ?_⟩
                refine ED.one 16 6 #[true, true, true, true, true, true, true, true, true, true, true, true, true, true, true, true, true, false, false, false, false, false, false] (by kernel_rfl) (by kernel_rfl) (by kernel_rfl) (EO.append hS 66 66 3 8 3 (Kd.int .i64) A359 C360 x358 rfl (some ⟨g736, 0, none⟩) 1 l442 (Rd.own 0 3 rfl) l444 hl444 (fun A737 C738 => Ass.own 3 (Kd.int .i64) (some ⟨g736, 0, none⟩) 1 l442 :: Ass.deep 94 96 kS96 A734 C735 l438 :: Ass.box 91 g236 [.slice A355 x354.length C356, .slice A359 x358.length C360] :: Ass.own 3 (Kd.int .i64) A737 C738 l444 :: os) 34 (by kernel_rfl) (by kernel_rfl) (by kernel_rfl) (by kernel_rfl) h443 (fun _ _ => rfl) ?_)
                intro A737 C738 w hS
                have hC : Core B [] [Ro.sl (Kd.int .i64) (some ad434) C246 l244, Ro.sl (Kd.int .i64) A10 C11 l9] _ := ⟨_, _, hS⟩
                refine ⟨hC, ?_⟩
                refine ED.quick hN hF hC [17, 18] [3, 12, 13, 14, 19, 25, 34, 36] 4 [(3, .pointer (some ⟨g236, 0, none⟩)), (12, .slice (some ad434) l244.length C246), (13, .int .i64 (l244.length : Int)), (14, .int .i64 x362), (19, .pointer (some ⟨g236, 0, none⟩)), (25, .slice A734 l438.length C735), (34, .slice A737 l444.length C738), (36, .pointer (some ⟨g236, 0, none⟩))] #[true, true, true, true, true, true, true, true, true, true, true, true, true, true, true, true, true, true, true, false, false, false, false] (by kernel_rfl) (by kernel_rfl) ?_
                refine ED.one 19 3 #[true, true, true, true, true, true, true, true, true, true, true, true, true, true, true, true, true, true, true, true, false, false, false] (by kernel_rfl) (by kernel_rfl) (by kernel_rfl) (EO.storeBox (os' := Ass.own 3 (Kd.int .i64) (some ⟨g736, 0, none⟩) 1 l442 :: Ass.deep 94 96 kS96 A734 C735 l438 :: Ass.box 91 g236 [.slice A734 l438.length C735, .slice A359 x358.length C360] :: Ass.own 3 (Kd.int .i64) A737 C738 l444 :: os) hS 2 rfl 89 0 (.slice A734 l438.length C735) [.slice A734 l438.length C735, .slice A359 x358.length C360] (by kernel_rfl) (by kernel_rfl) (by kernel_rfl) (by kernel_rfl) (by kernel_rfl) (by kernel_rfl) rfl rfl ?_)
                intro w hS
                have hC : Core B [] [Ro.sl (Kd.int .i64) (some ad434) C246 l244, Ro.sl (Kd.int .i64) A10 C11 l9] _ := ⟨_, _, hS⟩
                refine ⟨hC, ?_⟩
                refine ED.quick hN hF hC [20, 21] [3, 12, 13, 14, 34, 38] 1 [(3, .pointer (some ⟨g236, 0, none⟩)), (12, .slice (some ad434) l244.length C246), (13, .int .i64 (l244.length : Int)), (14, .int .i64 x362), (34, .slice A737 l444.length C738), (38, .pointer (some ⟨g236, 1, none⟩))] #[true, true, true, true, true, true, true, true, true, true, true, true, true, true, true, true, true, true, true, true, true, true, false] (by kernel_rfl) (by kernel_rfl) ?_
                refine ED.one 22 0 #[true, true, true, true, true, true, true, true, true, true, true, true, true, true, true, true, true, true, true, true, true, true, true] (by kernel_rfl) (by kernel_rfl) (by kernel_rfl) (EO.storeBox (os' := Ass.own 3 (Kd.int .i64) (some ⟨g736, 0, none⟩) 1 l442 :: Ass.deep 94 96 kS96 A734 C735 l438 :: Ass.box 91 g236 [.slice A734 l438.length C735, .slice A737 l444.length C738] :: Ass.own 3 (Kd.int .i64) A737 C738 l444 :: os) hS 2 rfl 66 1 (.slice A737 l444.length C738) [.slice A734 l438.length C735, .slice A737 l444.length C738] (by kernel_rfl) (by kernel_rfl) (by kernel_rfl) (by kernel_rfl) (by kernel_rfl) (by kernel_rfl) rfl rfl ?_)
                intro w hS
                have hC : Core B [] [Ro.sl (Kd.int .i64) (some ad434) C246 l244, Ro.sl (Kd.int .i64) A10 C11 l9] _ := ⟨_, _, hS⟩
                refine ⟨hC, ?_⟩
                refine ED.done (by kernel_rfl) ?_
                refine EQ.to ?_
                refine EQ.keep [3, 12, 13, 14] [(3, .pointer (some ⟨g236, 0, none⟩)), (12, .slice (some ad434) l244.length C246), (13, .int .i64 (l244.length : Int)), (14, .int .i64 x362)] (by kernel_rfl) ?_
                exact fun a ha => ⟨(some ⟨g736, 0, none⟩), 1, A734, C735, A737, C738, ha, (hS.re [3, 3, 3, 3] [] rfl (sub_cons 0 rfl (sub_cons 1 rfl (sub_tail (sub_tail (sub_self))))))⟩
              · refine EO.lit hS (Kd.int .i64) 3 66 1 #[(0, .int .i64 (mn (mx (l244.getD x362.toNat 0) 0) 4096))] [.int .i64 (mn (mx (l244.getD x362.toNat 0) 0) 4096)] l442 33 (by kernel_rfl) (by kernel_rfl) (by kernel_rfl) (fun _ => (by kernel_rfl)) (by rw [hl442]; rfl) (by kernel_rfl) (fun w G hr => (by rw [hl442]; exact ⟨[.int .i64 (mn (mx (l244.getD x362.toNat 0) 0) 4096)], [], rfl, rfl, rfl⟩)) ?_
                intro g739 w hS
                have hC : Core B [] [Ro.sl (Kd.int .i64) (some ad434) C246 l244, Ro.sl (Kd.int .i64) A10 C11 l9] _ := ⟨_, _, hS⟩
                refine ⟨hC, ?_⟩
                refine ED.at' #[true, true, true, true, true, true, true, true, true, true, true, false, true, true, true, true, false, false, false, false, false, false, false] (by kernel_rfl) ?_
                refine ED.one 11 7 #[true, true, true, true, true, true, true, true, true, true, true, true, true, true, true, true, false, false, false, false, false, false, false] (by kernel_rfl) (by kernel_rfl) (by kernel_rfl) (EO.Y (YO.loadBox hS 2 rfl 66 1 1 (.slice A359 x358.length C360) 29 (by kernel_rfl) (by kernel_rfl) (by kernel_rfl) (by kernel_rfl)) ?_)
                have hC : Core B [] [Ro.sl (Kd.int .i64) (some ad434) C246 l244, Ro.sl (Kd.int .i64) A10 C11 l9] _ := ⟨_, _, hS⟩
                refine ⟨hC, ?_⟩
                refine ED.one 16 6 #[true, true, true, true, true, true, true, true, true, true, true, true, true, true, true, true, true, false, false, false, false, false, false] (by kernel_rfl) (by kernel_rfl) (by kernel_rfl) (EO.append hS 66 66 3 8 3 (Kd.int .i64) A359 C360 x358 rfl (some ⟨g739, 0, none⟩) 1 l442 (Rd.own 0 3 rfl) l444 hl444 (fun A740 C741 => Ass.own 3 (Kd.int .i64) (some ⟨g739, 0, none⟩) 1 l442 :: Ass.deep 94 96 kS96 A734 C735 l438 :: Ass.box 91 g236 [.slice A355 x354.length C356, .slice A359 x358.length C360] :: Ass.own 3 (Kd.int .i64) A740 C741 l444 :: os) 34 (by kernel_rfl) (by kernel_rfl) (by kernel_rfl) (by kernel_rfl) h443 (fun _ _ => rfl) ?_)
                intro A740 C741 w hS
                have hC : Core B [] [Ro.sl (Kd.int .i64) (some ad434) C246 l244, Ro.sl (Kd.int .i64) A10 C11 l9] _ := ⟨_, _, hS⟩
                refine ⟨hC, ?_⟩
                refine ED.quick hN hF hC [17, 18] [3, 12, 13, 14, 19, 25, 34, 36] 4 [(3, .pointer (some ⟨g236, 0, none⟩)), (12, .slice (some ad434) l244.length C246), (13, .int .i64 (l244.length : Int)), (14, .int .i64 x362), (19, .pointer (some ⟨g236, 0, none⟩)), (25, .slice A734 l438.length C735), (34, .slice A740 l444.length C741), (36, .pointer (some ⟨g236, 0, none⟩))] #[true, true, true, true, true, true, true, true, true, true, true, true, true, true, true, true, true, true, true, false, false, false, false] (by kernel_rfl) (by kernel_rfl) ?_
                refine ED.one 19 3 #[true, true, true, true, true, true, true, true, true, true, true, true, true, true, true, true, true, true, true, true, false, false, false] (by kernel_rfl) (by kernel_rfl) (by kernel_rfl) (EO.storeBox (os' := Ass.own 3 (Kd.int .i64) (some ⟨g739, 0, none⟩) 1 l442 :: Ass.deep 94 96 kS96 A734 C735 l438 :: Ass.box 91 g236 [.slice A734 l438.length C735, .slice A359 x358.length C360] :: Ass.own 3 (Kd.int .i64) A740 C741 l444 :: os) hS 2 rfl 89 0 (.slice A734 l438.length C735) [.slice A734 l438.length C735, .slice A359 x358.length C360] (by kernel_rfl) (by kernel_rfl) (by kernel_rfl) (by kernel_rfl) (by kernel_rfl) (by kernel_rfl) rfl rfl ?_)
                intro w hS
                have hC : Core B [] [Ro.sl (Kd.int .i64) (some ad434) C246 l244, Ro.sl (Kd.int .i64) A10 C11 l9] _ := ⟨_, _, hS⟩
                refine ⟨hC, ?_⟩
                refine ED.quick hN hF hC [20, 21] [3, 12, 13, 14, 34, 38] 1 [(3, .pointer (some ⟨g236, 0, none⟩)), (12, .slice (some ad434) l244.length C246), (13, .int .i64 (l244.length : Int)), (14, .int .i64 x362), (34, .slice A740 l444.length C741), (38, .pointer (some ⟨g236, 1, none⟩))] #[true, true, true, true, true, true, true, true, true, true, true, true, true, true, true, true, true, true, true, true, true, true, false] (by kernel_rfl) (by kernel_rfl) ?_
                refine ED.one 22 0 #[true, true, true, true, true, true, true, true, true, true, true, true, true, true, true, true, true, true, true, true, true, true, true] (by kernel_rfl) (by kernel_rfl) (by kernel_rfl) (EO.storeBox (os' := Ass.own 3 (Kd.int .i64) (some ⟨g739, 0, none⟩) 1 l442 :: Ass.deep 94 96 kS96 A734 C735 l438 :: Ass.box 91 g236 [.slice A734 l438.length C735, .slice A740 l444.length C741] :: Ass.own 3 (Kd.int .i64) A740 C741 l444 :: os) hS 2 rfl 66 1 (.slice A740 l444.length C741) [.slice A734 l438.length C735, .slice A740 l444.length C741] (by kernel_rfl) (by kernel_rfl) (by kernel_rfl) (by kernel_rfl) (by kernel_rfl) (by kernel_rfl) rfl rfl ?_)
                intro w hS
                have hC : Core B [] [Ro.sl (Kd.int .i64) (some ad434) C246 l244, Ro.sl (Kd.int .i64) A10 C11 l9] _ := ⟨_, _, hS⟩
                refine ⟨hC, ?_⟩
                refine ED.done (by kernel_rfl) ?_
                refine EQ.to ?_
                refine EQ.keep [3, 12, 13, 14] [(3, .pointer (some ⟨g236, 0, none⟩)), (12, .slice (some ad434) l244.length C246), (13, .int .i64 (l244.length : Int)), (14, .int .i64 x362)] (by kernel_rfl) ?_
                exact fun a ha => ⟨(some ⟨g739, 0, none⟩), 1, A734, C735, A740, C741, ha, (hS.re [3, 3, 3, 3] [] rfl (sub_cons 0 rfl (sub_cons 1 rfl (sub_tail (sub_tail (sub_self))))))⟩
            · refine EO.Y (YO.loadBox hS 2 rfl 66 1 1 (.slice A359 x358.length C360) 29 (by kernel_rfl) (by kernel_rfl) (by kernel_rfl) (by kernel_rfl)) ?_
              have hC : Core B [] [Ro.sl (Kd.int .i64) (some ad434) C246 l244, Ro.sl (Kd.int .i64) A10 C11 l9] _ := ⟨_, _, hS⟩
              refine ⟨hC, ?_⟩
              refine ED.at' #[true, true, true, true, true, true, true, false, true, true, true, true, true, true, true, false, false, false, false, false, false, false, false] (by kernel_rfl) ?_
              refine ED.two 7 15 8 (by kernel_rfl) (by kernel_rfl) ?_ ?_
              · have hS := St.as (os' := Ass.deep 94 96 kS96 (some ⟨g732, 0, none⟩) 1 ([([] : List S96)] : List (List S96)) :: Ass.box 91 g236 [.slice A355 x354.length C356, .slice A359 x358.length C360] :: Ass.deep 94 96 kS96 A355 C356 x354 :: Ass.own 3 (Kd.int .i64) A359 C360 x358 :: os) (St.fold (B := B) (os := _) (rs := _) (et := 94) (et' := 96) (K := kS96) (hs := [(none, ([] : List S96).length, 0)]) (xs := ([([] : List S96)] : List (List S96))) ⟨rfl, trivial⟩ (St.re hS [0, 1] [] rfl sub_self)) rfl
                refine EO.appendDeep hS 89 89 24 2 0 kS96 A355 C356 x354 rfl (some ⟨g732, 0, none⟩) 1 ([([] : List S96)] : List (List S96)) rfl l438 hl438 (fun A742 C743 => Ass.deep 94 96 kS96 A742 C743 l438 :: Ass.box 91 g236 [.slice A355 x354.length C356, .slice A359 x358.length C360] :: Ass.own 3 (Kd.int .i64) A359 C360 x358 :: os) 25 (by kernel_rfl) (by kernel_rfl) (by kernel_rfl) (by kernel_rfl) h437 (fun _ _ => rfl) ?_
                intro A742 C743 w hS
                have hC : Core B [] [Ro.sl (Kd.int .i64) (some ad434) C246 l244, Ro.sl (Kd.int .i64) A10 C11 l9] _ := ⟨_, _, hS⟩
                refine ⟨hC, ?_⟩
                refine ED.at' #[true, true, true, true, true, true, true, true, true, true, true, true, true, true, true, false, false, false, false, false, false, false, false] (by kernel_rfl) ?_
                refine ED.one 15 7 #[true, true, true, true, true, true, true, true, true, true, true, true, true, true, true, true, false, false, false, false, false, false, false] (by kernel_rfl) (by kernel_rfl) (by kernel_rfl) (EO.lit hS (Kd.int .i64) 3 66 1 #[(0, .int .i64 (mn (mx (l244.getD x362.toNat 0) 0) 4096))] [.int .i64 (mn (mx (l244.getD x362.toNat 0) 0) 4096)] l442 33 (by kernel_rfl) (by kernel_rfl) (by kernel_rfl) (fun _ => (by kernel_rfl)) (by rw [hl442]; rfl) (by kernel_rfl) (fun w G hr => (by rw [hl442]; exact ⟨[.int .i64 (mn (mx (l244.getD x362.toNat 0) 0) 4096)], [], rfl, rfl, rfl⟩)) ?_)
                intro g744 w hS
                have hC : Core B [] [Ro.sl (Kd.int .i64) (some ad434) C246 l244, Ro.sl (Kd.int .i64) A10 C11 l9] _ := ⟨_, _, hS⟩
                refine ⟨hC, ?_⟩
                refine ED.one 16 6 #[true, true, true, true, true, true, true, true, true, true, true, true, true, true, true, true, true, false, false, false, false, false, false] (by kernel_rfl) (by kernel_rfl) (by kernel_rfl) (EO.append hS 66 66 3 8 3 (Kd.int .i64) A359 C360 x358 rfl (some ⟨g744, 0, none⟩) 1 l442 (Rd.own 0 3 rfl) l444 hl444 (fun A745 C746 => Ass.own 3 (Kd.int .i64) (some ⟨g744, 0, none⟩) 1 l442 :: Ass.deep 94 96 kS96 A742 C743 l438 :: Ass.box 91 g236 [.slice A355 x354.length C356, .slice A359 x358.length C360] :: Ass.own 3 (Kd.int .i64) A745 C746 l444 :: os) 34 (by kernel_rfl) (by kernel_rfl) (by kernel_rfl) (by kernel_rfl) h443 (fun _ _ => rfl) ?_)
                intro A745 C746 w hS
                have hC : Core B [] [Ro.sl (Kd.int .i64) (some ad434) C246 l244, Ro.sl (Kd.int .i64) A10 C11 l9] _ := ⟨_, _, hS⟩
                refine ⟨hC, ?_⟩
                refine ED.quick hN hF hC [17, 18] [3, 12, 13, 14, 19, 25, 34, 36] 4 [(3, .pointer (some ⟨g236, 0, none⟩)), (12, .slice (some ad434) l244.length C246), (13, .int .i64 (l244.length : Int)), (14, .int .i64 x362), (19, .pointer (some ⟨g236, 0, none⟩)), (25, .slice A742 l438.length C743), (34, .slice A745 l444.length C746), (36, .pointer (some ⟨g236, 0, none⟩))] #[true, true, true, true, true, true, true, true, true, true, true, true, true, true, true, true, true, true, true, false, false, false, false] (by kernel_rfl) (by kernel_rfl) ?_
                refine ED.one 19 3 #[true, true, true, true, true, true, true, true, true, true, true, true, true, true, true, true, true, true, true, true, false, false, false] (by kernel_rfl) (by kernel_rfl) (by kernel_rfl) (EO.storeBox (os' := Ass.own 3 (Kd.int .i64) (some ⟨g744, 0, none⟩) 1 l442 :: Ass.deep 94 96 kS96 A742 C743 l438 :: Ass.box 91 g236 [.slice A742 l438.length C743, .slice A359 x358.length C360] :: Ass.own 3 (Kd.int .i64) A745 C746 l444 :: os) hS 2 rfl 89 0 (.slice A742 l438.length C743) [.slice A742 l438.length C743, .slice A359 x358.length C360] (by kernel_rfl) (by kernel_rfl) (by kernel_rfl) (by kernel_rfl) (by kernel_rfl) (by kernel_rfl) rfl rfl ?_)
                intro w hS
                have hC : Core B [] [Ro.sl (Kd.int .i64) (some ad434) C246 l244, Ro.sl (Kd.int .i64) A10 C11 l9] _ := ⟨_, _, hS⟩
                refine ⟨hC, ?_⟩
                refine ED.quick hN hF hC [20, 21] [3, 12, 13, 14, 34, 38] 1 [(3, .pointer (some ⟨g236, 0, none⟩)), (12, .slice (some ad434) l244.length C246), (13, .int .i64 (l244.length : Int)), (14, .int .i64 x362), (34, .slice A745 l444.length C746), (38, .pointer (some ⟨g236, 1, none⟩))] #[true, true, true, true, true, true, true, true, true, true, true, true, true, true, true, true, true, true, true, true, true, true, false] (by kernel_rfl) (by kernel_rfl) ?_
                refine ED.one 22 0 #[true, true, true, true, true, true, true, true, true, true, true, true, true, true, true, true, true, true, true, true, true, true, true] (by kernel_rfl) (by kernel_rfl) (by kernel_rfl) (EO.storeBox (os' := Ass.own 3 (Kd.int .i64) (some ⟨g744, 0, none⟩) 1 l442 :: Ass.deep 94 96 kS96 A742 C743 l438 :: Ass.box 91 g236 [.slice A742 l438.length C743, .slice A745 l444.length C746] :: Ass.own 3 (Kd.int .i64) A745 C746 l444 :: os) hS 2 rfl 66 1 (.slice A745 l444.length C746) [.slice A742 l438.length C743, .slice A745 l444.length C746] (by kernel_rfl) (by kernel_rfl) (by kernel_rfl) (by kernel_rfl) (by kernel_rfl) (by kernel_rfl) rfl rfl ?_)
                intro w hS
                have hC : Core B [] [Ro.sl (Kd.int .i64) (some ad434) C246 l244, Ro.sl (Kd.int .i64) A10 C11 l9] _ := ⟨_, _, hS⟩
                refine ⟨hC, ?_⟩
                refine ED.done (by kernel_rfl) ?_
                refine EQ.to ?_
                refine EQ.keep [3, 12, 13, 14] [(3, .pointer (some ⟨g236, 0, none⟩)), (12, .slice (some ad434) l244.length C246), (13, .int .i64 (l244.length : Int)), (14, .int .i64 x362)] (by kernel_rfl) ?_
                exact fun a ha => ⟨(some ⟨g744, 0, none⟩), 1, A742, C743, A745, C746, ha, (hS.re [3, 3, 3, 3] [] rfl (sub_cons 0 rfl (sub_cons 1 rfl (sub_tail (sub_tail (sub_self))))))⟩
              · refine EO.lit hS (Kd.int .i64) 3 66 1 #[(0, .int .i64 (mn (mx (l244.getD x362.toNat 0) 0) 4096))] [.int .i64 (mn (mx (l244.getD x362.toNat 0) 0) 4096)] l442 33 (by kernel_rfl) (by kernel_rfl) (by kernel_rfl) (fun _ => (by kernel_rfl)) (by rw [hl442]; rfl) (by kernel_rfl) (fun w G hr => (by rw [hl442]; exact ⟨[.int .i64 (mn (mx (l244.getD x362.toNat 0) 0) 4096)], [], rfl, rfl, rfl⟩)) ?_
                intro g747 w hS
                have hC : Core B [] [Ro.sl (Kd.int .i64) (some ad434) C246 l244, Ro.sl (Kd.int .i64) A10 C11 l9] _ := ⟨_, _, hS⟩
                refine ⟨hC, ?_⟩
                refine ED.at' #[true, true, true, true, true, true, true, false, true, true, true, true, true, true, true, true, false, false, false, false, false, false, false] (by kernel_rfl) ?_
                have hS := St.as (os' := Ass.deep 94 96 kS96 (some ⟨g732, 0, none⟩) 1 ([([] : List S96)] : List (List S96)) :: Ass.own 3 (Kd.int .i64) (some ⟨g747, 0, none⟩) 1 l442 :: Ass.box 91 g236 [.slice A355 x354.length C356, .slice A359 x358.length C360] :: Ass.deep 94 96 kS96 A355 C356 x354 :: Ass.own 3 (Kd.int .i64) A359 C360 x358 :: os) (St.fold (B := B) (os := _) (rs := _) (et := 94) (et' := 96) (K := kS96) (hs := [(none, ([] : List S96).length, 0)]) (xs := ([([] : List S96)] : List (List S96))) ⟨rfl, trivial⟩ (St.re hS [1, 2] [] rfl sub_self)) rfl
                refine ED.one 7 7 #[true, true, true, true, true, true, true, true, true, true, true, true, true, true, true, true, false, false, false, false, false, false, false] (by kernel_rfl) (by kernel_rfl) (by kernel_rfl) (EO.appendDeep hS 89 89 24 3 0 kS96 A355 C356 x354 rfl (some ⟨g732, 0, none⟩) 1 ([([] : List S96)] : List (List S96)) rfl l438 hl438 (fun A748 C749 => Ass.deep 94 96 kS96 A748 C749 l438 :: Ass.own 3 (Kd.int .i64) (some ⟨g747, 0, none⟩) 1 l442 :: Ass.box 91 g236 [.slice A355 x354.length C356, .slice A359 x358.length C360] :: Ass.own 3 (Kd.int .i64) A359 C360 x358 :: os) 25 (by kernel_rfl) (by kernel_rfl) (by kernel_rfl) (by kernel_rfl) h437 (fun _ _ => rfl) ?_)
                intro A748 C749 w hS
                have hC : Core B [] [Ro.sl (Kd.int .i64) (some ad434) C246 l244, Ro.sl (Kd.int .i64) A10 C11 l9] _ := ⟨_, _, hS⟩
                refine ⟨hC, ?_⟩
                refine ED.one 16 6 #[true, true, true, true, true, true, true, true, true, true, true, true, true, true, true, true, true, false, false, false, false, false, false] (by kernel_rfl) (by kernel_rfl) (by kernel_rfl) (EO.append hS 66 66 3 8 3 (Kd.int .i64) A359 C360 x358 rfl (some ⟨g747, 0, none⟩) 1 l442 (Rd.own 1 3 rfl) l444 hl444 (fun A750 C751 => Ass.deep 94 96 kS96 A748 C749 l438 :: Ass.own 3 (Kd.int .i64) (some ⟨g747, 0, none⟩) 1 l442 :: Ass.box 91 g236 [.slice A355 x354.length C356, .slice A359 x358.length C360] :: Ass.own 3 (Kd.int .i64) A750 C751 l444 :: os) 34 (by kernel_rfl) (by kernel_rfl) (by kernel_rfl) (by kernel_rfl) h443 (fun _ _ => rfl) ?_)
                intro A750 C751 w hS
                have hC : Core B [] [Ro.sl (Kd.int .i64) (some ad434) C246 l244, Ro.sl (Kd.int .i64) A10 C11 l9] _ := ⟨_, _, hS⟩
                refine ⟨hC, ?_⟩
                refine ED.quick hN hF hC [17, 18] [3, 12, 13, 14, 19, 25, 34, 36] 4 [(3, .pointer (some ⟨g236, 0, none⟩)), (12, .slice (some ad434) l244.length C246), (13, .int .i64 (l244.length : Int)), (14, .int .i64 x362), (19, .pointer (some ⟨g236, 0, none⟩)), (25, .slice A748 l438.length C749), (34, .slice A750 l444.length C751), (36, .pointer (some ⟨g236, 0, none⟩))] #[true, true, true, true, true, true, true, true, true, true, true, true, true, true, true, true, true, true, true, false, false, false, false] (by kernel_rfl) (by kernel_rfl) ?_
                refine ED.one 19 3 #[true, true, true, true, true, true, true, true, true, true, true, true, true, true, true, true, true, true, true, true, false, false, false] (by kernel_rfl) (by kernel_rfl) (by kernel_rfl) (EO.storeBox (os' := Ass.deep 94 96 kS96 A748 C749 l438 :: Ass.own 3 (Kd.int .i64) (some ⟨g747, 0, none⟩) 1 l442 :: Ass.box 91 g236 [.slice A748 l438.length C749, .slice A359 x358.length C360] :: Ass.own 3 (Kd.int .i64) A750 C751 l444 :: os) hS 2 rfl 89 0 (.slice A748 l438.length C749) [.slice A748 l438.length C749, .slice A359 x358.length C360] (by kernel_rfl) (by kernel_rfl) (by kernel_rfl) (by kernel_rfl) (by kernel_rfl) (by kernel_rfl) rfl rfl ?_)
                intro w hS
                have hC : Core B [] [Ro.sl (Kd.int .i64) (some ad434) C246 l244, Ro.sl (Kd.int .i64) A10 C11 l9] _ := ⟨_, _, hS⟩
                refine ⟨hC, ?_⟩
                refine ED.quick hN hF hC [20, 21] [3, 12, 13, 14, 34, 38] 1 [(3, .pointer (some ⟨g236, 0, none⟩)), (12, .slice (some ad434) l244.length C246), (13, .int .i64 (l244.length : Int)), (14, .int .i64 x362), (34, .slice A750 l444.length C751), (38, .pointer (some ⟨g236, 1, none⟩))] #[true, true, true, true, true, true, true, true, true, true, true, true, true, true, true, true, true, true, true, true, true, true, false] (by kernel_rfl) (by kernel_rfl) ?_
                refine ED.one 22 0 #[true, true, true, true, true, true, true, true, true, true, true, true, true, true, true, true, true, true, true, true, true, true, true] (by kernel_rfl) (by kernel_rfl) (by kernel_rfl) (EO.storeBox (os' := Ass.deep 94 96 kS96 A748 C749 l438 :: Ass.own 3 (Kd.int .i64) (some ⟨g747, 0, none⟩) 1 l442 :: Ass.box 91 g236 [.slice A748 l438.length C749, .slice A750 l444.length C751] :: Ass.own 3 (Kd.int .i64) A750 C751 l444 :: os) hS 2 rfl 66 1 (.slice A750 l444.length C751) [.slice A748 l438.length C749, .slice A750 l444.length C751] (by kernel_rfl) (by kernel_rfl) (by kernel_rfl) (by kernel_rfl) (by kernel_rfl) (by kernel_rfl) rfl rfl ?_)
                intro w hS
                have hC : Core B [] [Ro.sl (Kd.int .i64) (some ad434) C246 l244, Ro.sl (Kd.int .i64) A10 C11 l9] _ := ⟨_, _, hS⟩
                refine ⟨hC, ?_⟩
                refine ED.done (by kernel_rfl) ?_
                refine EQ.to ?_
                refine EQ.keep [3, 12, 13, 14] [(3, .pointer (some ⟨g236, 0, none⟩)), (12, .slice (some ad434) l244.length C246), (13, .int .i64 (l244.length : Int)), (14, .int .i64 x362)] (by kernel_rfl) ?_
                exact fun a ha => ⟨(some ⟨g747, 0, none⟩), 1, A748, C749, A750, C751, ha, (hS.re [3, 3, 2, 3] [] rfl (sub_cons 0 rfl (sub_cons 1 rfl (sub_tail (sub_tail (sub_self))))))⟩
            · refine EO.lit hS (Kd.int .i64) 3 66 1 #[(0, .int .i64 (mn (mx (l244.getD x362.toNat 0) 0) 4096))] [.int .i64 (mn (mx (l244.getD x362.toNat 0) 0) 4096)] l442 33 (by kernel_rfl) (by kernel_rfl) (by kernel_rfl) (fun _ => (by kernel_rfl)) (by rw [hl442]; rfl) (by kernel_rfl) (fun w G hr => (by rw [hl442]; exact ⟨[.int .i64 (mn (mx (l244.getD x362.toNat 0) 0) 4096)], [], rfl, rfl, rfl⟩)) ?_
              intro g752 w hS
              have hC : Core B [] [Ro.sl (Kd.int .i64) (some ad434) C246 l244, Ro.sl (Kd.int .i64) A10 C11 l9] _ := ⟨_, _, hS⟩
              refine ⟨hC, ?_⟩
              refine ED.at' #[true, true, true, true, true, true, true, false, true, true, true, false, true, true, true, true, false, false, false, false, false, false, false] (by kernel_rfl) ?_
              refine ED.two 7 11 8 (by kernel_rfl) (by kernel_rfl) ?_ ?_
              · have hS := St.as (os' := Ass.deep 94 96 kS96 (some ⟨g732, 0, none⟩) 1 ([([] : List S96)] : List (List S96)) :: Ass.own 3 (Kd.int .i64) (some ⟨g752, 0, none⟩) 1 l442 :: Ass.box 91 g236 [.slice A355 x354.length C356, .slice A359 x358.length C360] :: Ass.deep 94 96 kS96 A355 C356 x354 :: Ass.own 3 (Kd.int .i64) A359 C360 x358 :: os) (St.fold (B := B) (os := _) (rs := _) (et := 94) (et' := 96) (K := kS96) (hs := [(none, ([] : List S96).length, 0)]) (xs := ([([] : List S96)] : List (List S96))) ⟨rfl, trivial⟩ (St.re hS [1, 2] [] rfl sub_self)) rfl
                refine EO.appendDeep hS 89 89 24 3 0 kS96 A355 C356 x354 rfl (some ⟨g732, 0, none⟩) 1 ([([] : List S96)] : List (List S96)) rfl l438 hl438 (fun A753 C754 => Ass.deep 94 96 kS96 A753 C754 l438 :: Ass.own 3 (Kd.int .i64) (some ⟨g752, 0, none⟩) 1 l442 :: Ass.box 91 g236 [.slice A355 x354.length C356, .slice A359 x358.length C360] :: Ass.own 3 (Kd.int .i64) A359 C360 x358 :: os) 25 (by kernel_rfl) (by kernel_rfl) (by kernel_rfl) (by kernel_rfl) h437 (fun _ _ => rfl) ?_
                intro A753 C754 w hS
                have hC : Core B [] [Ro.sl (Kd.int .i64) (some ad434) C246 l244, Ro.sl (Kd.int .i64) A10 C11 l9] _ := ⟨_, _, hS⟩
                refine ⟨hC, ?_⟩
                refine ED.at' #[true, true, true, true, true, true, true, true, true, true, true, false, true, true, true, true, false, false, false, false, false, false, false] (by kernel_rfl) ?_
                refine ED.one 11 7 #[true, true, true, true, true, true, true, true, true, true, true, true, true, true, true, true, false, false, false, false, false, false, false] (by kernel_rfl) (by kernel_rfl) (by kernel_rfl) (EO.Y (YO.loadBox hS 2 rfl 66 1 1 (.slice A359 x358.length C360) 29 (by kernel_rfl) (by kernel_rfl) (by kernel_rfl) (by kernel_rfl)) ?_)
                have hC : Core B [] [Ro.sl (Kd.int .i64) (some ad434) C246 l244, Ro.sl (Kd.int .i64) A10 C11 l9] _ := ⟨_, _, hS⟩
                refine ⟨hC, ?_⟩
                refine ED.one 16 6 #[true, true, true, true, true, true, true, true, true, true, true, true, true, true, true, true, true, false, false, false, false, false, false] (by kernel_rfl) (by kernel_rfl) (by kernel_rfl) (EO.append hS 66 66 3 8 3 (Kd.int .i64) A359 C360 x358 rfl (some ⟨g752, 0, none⟩) 1 l442 (Rd.own 1 3 rfl) l444 hl444 (fun A755 C756 => Ass.deep 94 96 kS96 A753 C754 l438 :: Ass.own 3 (Kd.int .i64) (some ⟨g752, 0, none⟩) 1 l442 :: Ass.box 91 g236 [.slice A355 x354.length C356, .slice A359 x358.length C360] :: Ass.own 3 (Kd.int .i64) A755 C756 l444 :: os) 34 (by kernel_rfl) (by kernel_rfl) (by kernel_rfl) (by kernel_rfl) h443 (fun _ _ => rfl) ?_)
                intro A755 C756 w hS
                have hC : Core B [] [Ro.sl (Kd.int .i64) (some ad434) C246 l244, Ro.sl (Kd.int .i64) A10 C11 l9] _ := ⟨_, _, hS⟩
                refine ⟨hC, ?_⟩
                refine ED.quick hN hF hC [17, 18] [3, 12, 13, 14, 19, 25, 34, 36] 4 [(3, .pointer (some ⟨g236, 0, none⟩)), (12, .slice (some ad434) l244.length C246), (13, .int .i64 (l244.length : Int)), (14, .int .i64 x362), (19, .pointer (some ⟨g236, 0, none⟩)), (25, .slice A753 l438.length C754), (34, .slice A755 l444.length C756), (36, .pointer (some ⟨g236, 0, none⟩))] #[true, true, true, true, true, true, true, true, true, true, true, true, true, true, true, true, true, true, true, false, false, false, false] (by kernel_rfl) (by kernel_rfl) ?_
                refine ED.one 19 3 #[true, true, true, true, true, true, true, true, true, true, true, true, true, true, true, true, true, true, true, true, false, false, false] (by kernel_rfl) (by kernel_rfl) (by kernel_rfl) (EO.storeBox (os' := Ass.deep 94 96 kS96 A753 C754 l438 :: Ass.own 3 (Kd.int .i64) (some ⟨g752, 0, none⟩) 1 l442 :: Ass.box 91 g236 [.slice A753 l438.length C754, .slice A359 x358.length C360] :: Ass.own 3 (Kd.int .i64) A755 C756 l444 :: os) hS 2 rfl 89 0 (.slice A753 l438.length C754) [.slice A753 l438.length C754, .slice A359 x358.length C360] (by kernel_rfl) (by kernel_rfl) (by kernel_rfl) (by kernel_rfl) (by kernel_rfl) (by kernel_rfl) rfl rfl ?_)
                intro w hS
                have hC : Core B [] [Ro.sl (Kd.int .i64) (some ad434) C246 l244, Ro.sl (Kd.int .i64) A10 C11 l9] _ := ⟨_, _, hS⟩
                refine ⟨hC, ?_⟩
                refine ED.quick hN hF hC [20, 21] [3, 12, 13, 14, 34, 38] 1 [(3, .pointer (some ⟨g236, 0, none⟩)), (12, .slice (some ad434) l244.length C246), (13, .int .i64 (l244.length : Int)), (14, .int .i64 x362), (34, .slice A755 l444.length C756), (38, .pointer (some ⟨g236, 1, none⟩))] #[true, true, true, true, true, true, true, true, true, true, true, true, true, true, true, true, true, true, true, true, true, true, false] (by kernel_rfl) (by kernel_rfl) ?_
                refine ED.one 22 0 #[true, true, true, true, true, true, true, true, true, true, true, true, true, true, true, true, true, true, true, true, true, true, true] (by kernel_rfl) (by kernel_rfl) (by kernel_rfl) (EO.storeBox (os' := Ass.deep 94 96 kS96 A753 C754 l438 :: Ass.own 3 (Kd.int .i64) (some ⟨g752, 0, none⟩) 1 l442 :: Ass.box 91 g236 [.slice A753 l438.length C754, .slice A755 l444.length C756] :: Ass.own 3 (Kd.int .i64) A755 C756 l444 :: os) hS 2 rfl 66 1 (.slice A755 l444.length C756) [.slice A753 l438.length C754, .slice A755 l444.length C756] (by kernel_rfl) (by kernel_rfl) (by kernel_rfl) (by kernel_rfl) (by kernel_rfl) (by kernel_rfl) rfl rfl ?_)
                intro w hS
                have hC : Core B [] [Ro.sl (Kd.int .i64) (some ad434) C246 l244, Ro.sl (Kd.int .i64) A10 C11 l9] _ := ⟨_, _, hS⟩
                refine ⟨hC, ?_⟩
                refine ED.done (by kernel_rfl) ?_
                refine EQ.to ?_
                refine EQ.keep [3, 12, 13, 14] [(3, .pointer (some ⟨g236, 0, none⟩)), (12, .slice (some ad434) l244.length C246), (13, .int .i64 (l244.length : Int)), (14, .int .i64 x362)] (by kernel_rfl) ?_
                exact fun a ha => ⟨(some ⟨g752, 0, none⟩), 1, A753, C754, A755, C756, ha, (hS.re [3, 3, 2, 3] [] rfl (sub_cons 0 rfl (sub_cons 1 rfl (sub_tail (sub_tail (sub_self))))))⟩
              · refine EO.Y (YO.loadBox hS 3 rfl 66 1 1 (.slice A359 x358.length C360) 29 (by kernel_rfl) (by kernel_rfl) (by kernel_rfl) (by kernel_rfl)) ?_
                have hC : Core B [] [Ro.sl (Kd.int .i64) (some ad434) C246 l244, Ro.sl (Kd.int .i64) A10 C11 l9] _ := ⟨_, _, hS⟩
                refine ⟨hC, ?_⟩
                refine ED.at' #[true, true, true, true, true, true, true, false, true, true, true, true, true, true, true, true, false, false, false, false, false, false, false] (by kernel_rfl) ?_
                have hS := St.as (os' := Ass.deep 94 96 kS96 (some ⟨g732, 0, none⟩) 1 ([([] : List S96)] : List (List S96)) :: Ass.own 3 (Kd.int .i64) (some ⟨g752, 0, none⟩) 1 l442 :: Ass.box 91 g236 [.slice A355 x354.length C356, .slice A359 x358.length C360] :: Ass.deep 94 96 kS96 A355 C356 x354 :: Ass.own 3 (Kd.int .i64) A359 C360 x358 :: os) (St.fold (B := B) (os := _) (rs := _) (et := 94) (et' := 96) (K := kS96) (hs := [(none, ([] : List S96).length, 0)]) (xs := ([([] : List S96)] : List (List S96))) ⟨rfl, trivial⟩ (St.re hS [1, 2] [] rfl sub_self)) rfl
                refine ED.one 7 7 #[true, true, true, true, true, true, true, true, true, true, true, true, true, true, true, true, false, false, false, false, false, false, false] (by kernel_rfl) (by kernel_rfl) (by kernel_rfl) (EO.appendDeep hS 89 89 24 3 0 kS96 A355 C356 x354 rfl (some ⟨g732, 0, none⟩) 1 ([([] : List S96)] : List (List S96)) rfl l438 hl438 (fun A757 C758 => Ass.deep 94 96 kS96 A757 C758 l438 :: Ass.own 3 (Kd.int .i64) (some ⟨g752, 0, none⟩) 1 l442 :: Ass.box 91 g236 [.slice A355 x354.length C356, .slice A359 x358.length C360] :: Ass.own 3 (Kd.int .i64) A359 C360 x358 :: os) 25 (by kernel_rfl) (by kernel_rfl) (by kernel_rfl) (by kernel_rfl) h437 (fun _ _ => rfl) ?_)
                intro A757 C758 w hS
                have hC : Core B [] [Ro.sl (Kd.int .i64) (some ad434) C246 l244, Ro.sl (Kd.int .i64) A10 C11 l9] _ := ⟨_, _, hS⟩
                refine ⟨hC, ?_⟩
                refine ED.one 16 6 #[true, true, true, true, true, true, true, true, true, true, true, true, true, true, true, true, true, false, false, false, false, false, false] (by kernel_rfl) (by kernel_rfl) (by kernel_rfl) (EO.append hS 66 66 3 8 3 (Kd.int .i64) A359 C360 x358 rfl (some ⟨g752, 0, none⟩) 1 l442 (Rd.own 1 3 rfl) l444 hl444 (fun A759 C760 => Ass.deep 94 96 kS96 A757 C758 l438 :: Ass.own 3 (Kd.int .i64) (some ⟨g752, 0, none⟩) 1 l442 :: Ass.box 91 g236 [.slice A355 x354.length C356, .slice A359 x358.length C360] :: Ass.own 3 (Kd.int .i64) A759 C760 l444 :: os) 34 (by kernel_rfl) (by kernel_rfl) (by kernel_rfl) (by kernel_rfl) h443 (fun _ _ => rfl) ?_)
                intro A759 C760 w hS
                have hC : Core B [] [Ro.sl (Kd.int .i64) (some ad434) C246 l244, Ro.sl (Kd.int .i64) A10 C11 l9] _ := ⟨_, _, hS⟩
                refine ⟨hC, ?_⟩
                refine ED.quick hN hF hC [17, 18] [3, 12, 13, 14, 19, 25, 34, 36] 4 [(3, .pointer (some ⟨g236, 0, none⟩)), (12, .slice (some ad434) l244.length C246), (13, .int .i64 (l244.length : Int)), (14, .int .i64 x362), (19, .pointer (some ⟨g236, 0, none⟩)), (25, .slice A757 l438.length C758), (34, .slice A759 l444.length C760), (36, .pointer (some ⟨g236, 0, none⟩))] #[true, true, true, true, true, true, true, true, true, true, true, true, true, true, true, true, true, true, true, false, false, false, false] (by kernel_rfl) (by kernel_rfl) ?_
                refine ED.one 19 3 #[true, true, true, true, true, true, true, true, true, true, true, true, true, true, true, true, true, true, true, true, false, false, false] (by kernel_rfl) (by kernel_rfl) (by kernel_rfl) (EO.storeBox (os' := Ass.deep 94 96 kS96 A757 C758 l438 :: Ass.own 3 (Kd.int .i64) (some ⟨g752, 0, none⟩) 1 l442 :: Ass.box 91 g236 [.slice A757 l438.length C758, .slice A359 x358.length C360] :: Ass.own 3 (Kd.int .i64) A759 C760 l444 :: os) hS 2 rfl 89 0 (.slice A757 l438.length C758) [.slice A757 l438.length C758, .slice A359 x358.length C360] (by kernel_rfl) (by kernel_rfl) (by kernel_rfl) (by kernel_rfl) (by kernel_rfl) (by kernel_rfl) rfl rfl ?_)
                intro w hS
                have hC : Core B [] [Ro.sl (Kd.int .i64) (some ad434) C246 l244, Ro.sl (Kd.int .i64) A10 C11 l9] _ := ⟨_, _, hS⟩
                refine ⟨hC, ?_⟩
                refine ED.quick hN hF hC [20, 21] [3, 12, 13, 14, 34, 38] 1 [(3, .pointer (some ⟨g236, 0, none⟩)), (12, .slice (some ad434) l244.length C246), (13, .int .i64 (l244.length : Int)), (14, .int .i64 x362), (34, .slice A759 l444.length C760), (38, .pointer (some ⟨g236, 1, none⟩))] #[true, true, true, true, true, true, true, true, true, true, true, true, true, true, true, true, true, true, true, true, true, true, false] (by kernel_rfl) (by kernel_rfl) ?_
                refine ED.one 22 0 #[true, true, true, true, true, true, true, true, true, true, true, true, true, true, true, true, true, true, true, true, true, true, true] (by kernel_rfl) (by kernel_rfl) (by kernel_rfl) (EO.storeBox (os' := Ass.deep 94 96 kS96 A757 C758 l438 :: Ass.own 3 (Kd.int .i64) (some ⟨g752, 0, none⟩) 1 l442 :: Ass.box 91 g236 [.slice A757 l438.length C758, .slice A759 l444.length C760] :: Ass.own 3 (Kd.int .i64) A759 C760 l444 :: os) hS 2 rfl 66 1 (.slice A759 l444.length C760) [.slice A757 l438.length C758, .slice A759 l444.length C760] (by kernel_rfl) (by kernel_rfl) (by kernel_rfl) (by kernel_rfl) (by kernel_rfl) (by kernel_rfl) rfl rfl ?_)
                intro w hS
                have hC : Core B [] [Ro.sl (Kd.int .i64) (some ad434) C246 l244, Ro.sl (Kd.int .i64) A10 C11 l9] _ := ⟨_, _, hS⟩
                refine ⟨hC, ?_⟩
                refine ED.done (by kernel_rfl) ?_
                refine EQ.to ?_
                refine EQ.keep [3, 12, 13, 14] [(3, .pointer (some ⟨g236, 0, none⟩)), (12, .slice (some ad434) l244.length C246), (13, .int .i64 (l244.length : Int)), (14, .int .i64 x362)] (by kernel_rfl) ?_
                exact fun a ha => ⟨(some ⟨g752, 0, none⟩), 1, A757, C758, A759, C760, ha, (hS.re [3, 3, 2, 3] [] rfl (sub_cons 0 rfl (sub_cons 1 rfl (sub_tail (sub_tail (sub_self))))))⟩
          · refine EO.Y (YO.loadBox hS 2 rfl 66 1 1 (.slice A359 x358.length C360) 29 (by kernel_rfl) (by kernel_rfl) (by kernel_rfl) (by kernel_rfl)) ?_
            have hC : Core B [] [Ro.sl (Kd.int .i64) (some ad434) C246 l244, Ro.sl (Kd.int .i64) A10 C11 l9] _ := ⟨_, _, hS⟩
            refine ⟨hC, ?_⟩
            refine ED.at' #[true, true, true, true, true, false, true, false, true, true, true, true, true, true, true, false, false, false, false, false, false, false, false] (by kernel_rfl) ?_
            refine ED.two 5 15 9 (by kernel_rfl) (by kernel_rfl) ?_ ?_
            · refine EO.Y (YO.loadBox hS 2 rfl 89 0 1 (.slice A355 x354.length C356) 23 (by kernel_rfl) (by kernel_rfl) (by kernel_rfl) (by kernel_rfl)) ?_
              have hC : Core B [] [Ro.sl (Kd.int .i64) (some ad434) C246 l244, Ro.sl (Kd.int .i64) A10 C11 l9] _ := ⟨_, _, hS⟩
              refine ⟨hC, ?_⟩
              refine ED.at' #[true, true, true, true, true, true, true, false, true, true, true, true, true, true, true, false, false, false, false, false, false, false, false] (by kernel_rfl) ?_
              refine ED.two 7 15 8 (by kernel_rfl) (by kernel_rfl) ?_ ?_
              · have hS := St.as (os' := Ass.deep 94 96 kS96 (some ⟨g732, 0, none⟩) 1 ([([] : List S96)] : List (List S96)) :: Ass.box 91 g236 [.slice A355 x354.length C356, .slice A359 x358.length C360] :: Ass.deep 94 96 kS96 A355 C356 x354 :: Ass.own 3 (Kd.int .i64) A359 C360 x358 :: os) (St.fold (B := B) (os := _) (rs := _) (et := 94) (et' := 96) (K := kS96) (hs := [(none, ([] : List S96).length, 0)]) (xs := ([([] : List S96)] : List (List S96))) ⟨rfl, trivial⟩ (St.re hS [0, 1] [] rfl sub_self)) rfl
                refine EO.appendDeep hS 89 89 24 2 0 kS96 A355 C356 x354 rfl (some ⟨g732, 0, none⟩) 1 ([([] : List S96)] : List (List S96)) rfl l438 hl438 (fun A761 C762 => Ass.deep 94 96 kS96 A761 C762 l438 :: Ass.box 91 g236 [.slice A355 x354.length C356, .slice A359 x358.length C360] :: Ass.own 3 (Kd.int .i64) A359 C360 x358 :: os) 25 (by kernel_rfl) (by kernel_rfl) (by kernel_rfl) (by kernel_rfl) h437 (fun _ _ => rfl) ?_
                intro A761 C762 w hS
                have hC : Core B [] [Ro.sl (Kd.int .i64) (some ad434) C246 l244, Ro.sl (Kd.int .i64) A10 C11 l9] _ := ⟨_, _, hS⟩
                refine ⟨hC, ?_⟩
                refine ED.at' #[true, true, true, true, true, true, true, true, true, true, true, true, true, true, true, false, false, false, false, false, false, false, false] (by kernel_rfl) ?_
                refine ED.one 15 7 #[true, true, true, true, true, true, true, true, true, true, true, true, true, true, true, true, false, false, false, false, false, false, false] (by kernel_rfl) (by kernel_rfl) (by kernel_rfl) (EO.lit hS (Kd.int .i64) 3 66 1 #[(0, .int .i64 (mn (mx (l244.getD x362.toNat 0) 0) 4096))] [.int .i64 (mn (mx (l244.getD x362.toNat 0) 0) 4096)] l442 33 (by kernel_rfl) (by kernel_rfl) (by kernel_rfl) (fun _ => (by kernel_rfl)) (by rw [hl442]; rfl) (by kernel_rfl) (fun w G hr => (by rw [hl442]; exact ⟨[.int .i64 (mn (mx (l244.getD x362.toNat 0) 0) 4096)], [], rfl, rfl, rfl⟩)) ?_)
                intro g763 w hS
                have hC : Core B [] [Ro.sl (Kd.int .i64) (some ad434) C246 l244, Ro.sl (Kd.int .i64) A10 C11 l9] _ := ⟨_, _, hS⟩
                refine ⟨hC, ?_⟩
                refine ED.one 16 6 #[true, true, true, true, true, true, true, true, true, true, true, true, true, true, true, true, true, false, false, false, false, false, false] (by kernel_rfl) (by kernel_rfl) (by kernel_rfl) (EO.append hS 66 66 3 8 3 (Kd.int .i64) A359 C360 x358 rfl (some ⟨g763, 0, none⟩) 1 l442 (Rd.own 0 3 rfl) l444 hl444 (fun A764 C765 => Ass.own 3 (Kd.int .i64) (some ⟨g763, 0, none⟩) 1 l442 :: Ass.deep 94 96 kS96 A761 C762 l438 :: Ass.box 91 g236 [.slice A355 x354.length C356, .slice A359 x358.length C360] :: Ass.own 3 (Kd.int .i64) A764 C765 l444 :: os) 34 (by kernel_rfl) (by kernel_rfl) (by kernel_rfl) (by kernel_rfl) h443 (fun _ _ => rfl) ?_)
                intro A764 C765 w hS
                have hC : Core B [] [Ro.sl (Kd.int .i64) (some ad434) C246 l244, Ro.sl (Kd.int .i64) A10 C11 l9] _ := ⟨_, _, hS⟩
                refine ⟨hC, ?_⟩
                refine ED.quick hN hF hC [17, 18] [3, 12, 13, 14, 19, 25, 34, 36] 4 [(3, .pointer (some ⟨g236, 0, none⟩)), (12, .slice (some ad434) l244.length C246), (13, .int .i64 (l244.length : Int)), (14, .int .i64 x362), (19, .pointer (some ⟨g236, 0, none⟩)), (25, .slice A761 l438.length C762), (34, .slice A764 l444.length C765), (36, .pointer (some ⟨g236, 0, none⟩))] #[true, true, true, true, true, true, true, true, true, true, true, true, true, true, true, true, true, true, true, false, false, false, false] (by kernel_rfl) (by kernel_rfl) ?_
                refine ED.one 19 3 #[true, true, true, true, true, true, true, true, true, true, true, true, true, true, true, true, true, true, true, true, false, false, false] (by kernel_rfl) (by kernel_rfl) (by kernel_rfl) (EO.storeBox (os' := Ass.own 3 (Kd.int .i64) (some ⟨g763, 0, none⟩) 1 l442 :: Ass.deep 94 96 kS96 A761 C762 l438 :: Ass.box 91 g236 [.slice A761 l438.length C762, .slice A359 x358.length C360] :: Ass.own 3 (Kd.int .i64) A764 C765 l444 :: os) hS 2 rfl 89 0 (.slice A761 l438.length C762) [.slice A761 l438.length C762, .slice A359 x358.length C360] (by kernel_rfl) (by kernel_rfl) (by kernel_rfl) (by kernel_rfl) (by kernel_rfl) (by kernel_rfl) rfl rfl ?_)
                intro w hS
                have hC : Core B [] [Ro.sl (Kd.int .i64) (some ad434) C246 l244, Ro.sl (Kd.int .i64) A10 C11 l9] _ := ⟨_, _, hS⟩
                refine ⟨hC, ?_⟩
                refine ED.quick hN hF hC [20, 21] [3, 12, 13, 14, 34, 38] 1 [(3, .pointer (some ⟨g236, 0, none⟩)), (12, .slice (some ad434) l244.length C246), (13, .int .i64 (l244.length : Int)), (14, .int .i64 x362), (34, .slice A764 l444.length C765), (38, .pointer (some ⟨g236, 1, none⟩))] #[true, true, true, true, true, true, true, true, true, true, true, true, true, true, true, true, true, true, true, true, true, true, false] (by kernel_rfl) (by kernel_rfl) ?_
                refine ED.one 22 0 #[true, true, true, true, true, true, true, true, true, true, true, true, true, true, true, true, true, true, true, true, true, true, true] (by kernel_rfl) (by kernel_rfl) (by kernel_rfl) (EO.storeBox (os' := Ass.own 3 (Kd.int .i64) (some ⟨g763, 0, none⟩) 1 l442 :: Ass.deep 94 96 kS96 A761 C762 l438 :: Ass.box 91 g236 [.slice A761 l438.length C762, .slice A764 l444.length C765] :: Ass.own 3 (Kd.int .i64) A764 C765 l444 :: os) hS 2 rfl 66 1 (.slice A764 l444.length C765) [.slice A761 l438.length C762, .slice A764 l444.length C765] (by kernel_rfl) (by kernel_rfl) (by kernel_rfl) (by kernel_rfl) (by kernel_rfl) (by kernel_rfl) rfl rfl ?_)
                intro w hS
                have hC : Core B [] [Ro.sl (Kd.int .i64) (some ad434) C246 l244, Ro.sl (Kd.int .i64) A10 C11 l9] _ := ⟨_, _, hS⟩
                refine ⟨hC, ?_⟩
                refine ED.done (by kernel_rfl) ?_
                refine EQ.to ?_
                refine EQ.keep [3, 12, 13, 14] [(3, .pointer (some ⟨g236, 0, none⟩)), (12, .slice (some ad434) l244.length C246), (13, .int .i64 (l244.length : Int)), (14, .int .i64 x362)] (by kernel_rfl) ?_
                exact fun a ha => ⟨(some ⟨g763, 0, none⟩), 1, A761, C762, A764, C765, ha, (hS.re [3, 3, 3, 3] [] rfl (sub_cons 0 rfl (sub_cons 1 rfl (sub_tail (sub_tail (sub_self))))))⟩
              · refine EO.lit hS (Kd.int .i64) 3 66 1 #[(0, .int .i64 (mn (mx (l244.getD x362.toNat 0) 0) 4096))] [.int .i64 (mn (mx (l244.getD x362.toNat 0) 0) 4096)] l442 33 (by kernel_rfl) (by kernel_rfl) (by kernel_rfl) (fun _ => (by kernel_rfl)) (by rw [hl442]; rfl) (by kernel_rfl) (fun w G hr => (by rw [hl442]; exact ⟨[.int .i64 (mn (mx (l244.getD x362.toNat 0) 0) 4096)], [], rfl, rfl, rfl⟩)) ?_
                intro g766 w hS
                have hC : Core B [] [Ro.sl (Kd.int .i64) (some ad434) C246 l244, Ro.sl (Kd.int .i64) A10 C11 l9] _ := ⟨_, _, hS⟩
                refine ⟨hC, ?_⟩
                refine ED.at' #[true, true, true, true, true, true, true, false, true, true, true, true, true, true, true, true, false, false, false, false, false, false, false] (by kernel_rfl) ?_
                have hS := St.as (os' := Ass.deep 94 96 kS96 (some ⟨g732, 0, none⟩) 1 ([([] : List S96)] : List (List S96)) :: Ass.own 3 (Kd.int .i64) (some ⟨g766, 0, none⟩) 1 l442 :: Ass.box 91 g236 [.slice A355 x354.length C356, .slice A359 x358.length C360] :: Ass.deep 94 96 kS96 A355 C356 x354 :: Ass.own 3 (Kd.int .i64) A359 C360 x358 :: os) (St.fold (B := B) (os := _) (rs := _) (et := 94) (et' := 96) (K := kS96) (hs := [(none, ([] : List S96).length, 0)]) (xs := ([([] : List S96)] : List (List S96))) ⟨rfl, trivial⟩ (St.re hS [1, 2] [] rfl sub_self)) rfl
                refine ED.one 7 7 #[true, true, true, true, true, true, true, true, true, true, true, true, true, true, true, true, false, false, false, false, false, false, false] (by kernel_rfl) (by kernel_rfl) (by kernel_rfl) (EO.appendDeep hS 89 89 24 3 0 kS96 A355 C356 x354 rfl (some ⟨g732, 0, none⟩) 1 ([([] : List S96)] : List (List S96)) rfl l438 hl438 (fun A767 C768 => Ass.deep 94 96 kS96 A767 C768 l438 :: Ass.own 3 (Kd.int .i64) (some ⟨g766, 0, none⟩) 1 l442 :: Ass.box 91 g236 [.slice A355 x354.length C356, .slice A359 x358.length C360] :: Ass.own 3 (Kd.int .i64) A359 C360 x358 :: os) 25 (by kernel_rfl) (by kernel_rfl) (by kernel_rfl) (by kernel_rfl) h437 (fun _ _ => rfl) ?_)
                intro A767 C768 w hS
                have hC : Core B [] [Ro.sl (Kd.int .i64) (some ad434) C246 l244, Ro.sl (Kd.int .i64) A10 C11 l9] _ := ⟨_, _, hS⟩
                refine ⟨hC, ?_⟩
                refine ED.one 16 6 #[true, true, true, true, true, true, true, true, true, true, true, true, true, true, true, true, true, false, false, false, false, false, false] (by kernel_rfl) (by kernel_rfl) (by kernel_rfl) (EO.append hS 66 66 3 8 3 (Kd.int .i64) A359 C360 x358 rfl (some ⟨g766, 0, none⟩) 1 l442 (Rd.own 1 3 rfl) l444 hl444 (fun A769 C770 => Ass.deep 94 96 kS96 A767 C768 l438 :: Ass.own 3 (Kd.int .i64) (some ⟨g766, 0, none⟩) 1 l442 :: Ass.box 91 g236 [.slice A355 x354.length C356, .slice A359 x358.length C360] :: Ass.own 3 (Kd.int .i64) A769 C770 l444 :: os) 34 (by kernel_rfl) (by kernel_rfl) (by kernel_rfl) (by kernel_rfl) h443 (fun _ _ => rfl) ?_)
                intro A769 C770 w hS
                have hC : Core B [] [Ro.sl (Kd.int .i64) (some ad434) C246 l244, Ro.sl (Kd.int .i64) A10 C11 l9] _ := ⟨_, _, hS⟩
                refine ⟨hC, ?_⟩
                refine ED.quick hN hF hC [17, 18] [3, 12, 13, 14, 19, 25, 34, 36] 4 [(3, .pointer (some ⟨g236, 0, none⟩)), (12, .slice (some ad434) l244.length C246), (13, .int .i64 (l244.length : Int)), (14, .int .i64 x362), (19, .pointer (some ⟨g236, 0, none⟩)), (25, .slice A767 l438.length C768), (34, .slice A769 l444.length C770), (36, .pointer (some ⟨g236, 0, none⟩))] #[true, true, true, true, true, true, true, true, true, true, true, true, true, true, true, true, true, true, true, false, false, false, false] (by kernel_rfl) (by kernel_rfl) ?_
                refine ED.one 19 3 #[true, true, true, true, true, true, true, true, true, true, true, true, true, true, true, true, true, true, true, true, false, false, false] (by kernel_rfl) (by kernel_rfl) (by kernel_rfl) (EO.storeBox (os' := Ass.deep 94 96 kS96 A767 C768 l438 :: Ass.own 3 (Kd.int .i64) (some ⟨g766, 0, none⟩) 1 l442 :: Ass.box 91 g236 [.slice A767 l438.length C768, .slice A359 x358.length C360] :: Ass.own 3 (Kd.int .i64) A769 C770 l444 :: os) hS 2 rfl 89 0 (.slice A767 l438.length C768) [.slice A767 l438.length C768, .slice A359 x358.length C360] (by kernel_rfl) (by kernel_rfl) (by kernel_rfl) (by kernel_rfl) (by kernel_rfl) (by kernel_rfl) rfl rfl ?_)
                intro w hS
                have hC : Core B [] [Ro.sl (Kd.int .i64) (some ad434) C246 l244, Ro.sl (Kd.int .i64) A10 C11 l9] _ := ⟨_, _, hS⟩
                refine ⟨hC, ?_⟩
                refine ED.quick hN hF hC [20, 21] [3, 12, 13, 14, 34, 38] 1 [(3, .pointer (some ⟨g236, 0, none⟩)), (12, .slice (some ad434) l244.length C246), (13, .int .i64 (l244.length : Int)), (14, .int .i64 x362), (34, .slice A769 l444.length C770), (38, .pointer (some ⟨g236, 1, none⟩))] #[true, true, true, true, true, true, true, true, true, true, true, true, true, true, true, true, true, true, true, true, true, true, false] (by kernel_rfl) (by kernel_rfl) ?_
                refine ED.one 22 0 #[true, true, true, true, true, true, true, true, true, true, true, true, true, true, true, true, true, true, true, true, true, true, true] (by kernel_rfl) (by kernel_rfl) (by kernel_rfl) (EO.storeBox (os' := Ass.deep 94 96 kS96 A767 C768 l438 :: Ass.own 3 (Kd.int .i64) (some ⟨g766, 0, none⟩) 1 l442 :: Ass.box 91 g236 [.slice A767 l438.length C768, .slice A769 l444.length C770] :: Ass.own 3 (Kd.int .i64) A769 C770 l444 :: os) hS 2 rfl 66 1 (.slice A769 l444.length C770) [.slice A767 l438.length C768, .slice A769 l444.length C770] (by kernel_rfl) (by kernel_rfl) (by kernel_rfl) (by kernel_rfl) (by kernel_rfl) (by kernel_rfl) rfl rfl ?_)
                intro w hS
                have hC : Core B [] [Ro.sl (Kd.int .i64) (some ad434) C246 l244, Ro.sl (Kd.int .i64) A10 C11 l9] _ := ⟨_, _, hS⟩
                refine ⟨hC, ?_⟩
                refine ED.done (by kernel_rfl) ?_
                refine EQ.to ?_
                refine EQ.keep [3, 12, 13, 14] [(3, .pointer (some ⟨g236, 0, none⟩)), (12, .slice (some ad434) l244.length C246), (13, .int .i64 (l244.length : Int)), (14, .int .i64 x362)] (by kernel_rfl) ?_
                exact fun a ha => ⟨(some ⟨g766, 0, none⟩), 1, A767, C768, A769, C770, ha, (hS.re [3, 3, 2, 3] [] rfl (sub_cons 0 rfl (sub_cons 1 rfl (sub_tail (sub_tail (sub_self))))))⟩
            · refine EO.lit hS (Kd.int .i64) 3 66 1 #[(0, .int .i64 (mn (mx (l244.getD x362.toNat 0) 0) 4096))] [.int .i64 (mn (mx (l244.getD x362.toNat 0) 0) 4096)] l442 33 (by kernel_rfl) (by kernel_rfl) (by kernel_rfl) (fun _ => (by kernel_rfl)) (by rw [hl442]; rfl) (by kernel_rfl) (fun w G hr => (by rw [hl442]; exact ⟨[.int .i64 (mn (mx (l244.getD x362.toNat 0) 0) 4096)], [], rfl, rfl, rfl⟩)) ?_
              intro g771 w hS
              have hC : Core B [] [Ro.sl (Kd.int .i64) (some ad434) C246 l244, Ro.sl (Kd.int .i64) A10 C11 l9] _ := ⟨_, _, hS⟩
              refine ⟨hC, ?_⟩
              refine ED.at' #[true, true, true, true, true, false, true, false, true, true, true, true, true, true, true, true, false, false, false, false, false, false, false] (by kernel_rfl) ?_
              refine ED.one 5 8 #[true, true, true, true, true, true, true, false, true, true, true, true, true, true, true, true, false, false, false, false, false, false, false] (by kernel_rfl) (by kernel_rfl) (by kernel_rfl) (EO.Y (YO.loadBox hS 3 rfl 89 0 1 (.slice A355 x354.length C356) 23 (by kernel_rfl) (by kernel_rfl) (by kernel_rfl) (by kernel_rfl)) ?_)
              have hC : Core B [] [Ro.sl (Kd.int .i64) (some ad434) C246 l244, Ro.sl (Kd.int .i64) A10 C11 l9] _ := ⟨_, _, hS⟩
              refine ⟨hC, ?_⟩
              have hS := St.as (os' := Ass.deep 94 96 kS96 (some ⟨g732, 0, none⟩) 1 ([([] : List S96)] : List (List S96)) :: Ass.own 3 (Kd.int .i64) (some ⟨g771, 0, none⟩) 1 l442 :: Ass.box 91 g236 [.slice A355 x354.length C356, .slice A359 x358.length C360] :: Ass.deep 94 96 kS96 A355 C356 x354 :: Ass.own 3 (Kd.int .i64) A359 C360 x358 :: os) (St.fold (B := B) (os := _) (rs := _) (et := 94) (et' := 96) (K := kS96) (hs := [(none, ([] : List S96).length, 0)]) (xs := ([([] : List S96)] : List (List S96))) ⟨rfl, trivial⟩ (St.re hS [1, 2] [] rfl sub_self)) rfl
              refine ED.one 7 7 #[true, true, true, true, true, true, true, true, true, true, true, true, true, true, true, true, false, false, false, false, false, false, false] (by kernel_rfl) (by kernel_rfl) (by kernel_rfl) (EO.appendDeep hS 89 89 24 3 0 kS96 A355 C356 x354 rfl (some ⟨g732, 0, none⟩) 1 ([([] : List S96)] : List (List S96)) rfl l438 hl438 (fun A772 C773 => Ass.deep 94 96 kS96 A772 C773 l438 :: Ass.own 3 (Kd.int .i64) (some ⟨g771, 0, none⟩) 1 l442 :: Ass.box 91 g236 [.slice A355 x354.length C356, .slice A359 x358.length C360] :: Ass.own 3 (Kd.int .i64) A359 C360 x358 :: os) 25 (by kernel_rfl) (by kernel_rfl) (by kernel_rfl) (by kernel_rfl) h437 (fun _ _ => rfl) ?_)
              intro A772 C773 w hS
              have hC : Core B [] [Ro.sl (Kd.int .i64) (some ad434) C246 l244, Ro.sl (Kd.int .i64) A10 C11 l9] _ := ⟨_, _, hS⟩
              refine ⟨hC, ?_⟩
              refine ED.one 16 6 #[true, true, true, true, true, true, true, true, true, true, true, true, true, true, true, true, true, false, false, false, false, false, false] (by kernel_rfl) (by kernel_rfl) (by kernel_rfl) (EO.append hS 66 66 3 8 3 (Kd.int .i64) A359 C360 x358 rfl (some ⟨g771, 0, none⟩) 1 l442 (Rd.own 1 3 rfl) l444 hl444 (fun A774 C775 => Ass.deep 94 96 kS96 A772 C773 l438 :: Ass.own 3 (Kd.int .i64) (some ⟨g771, 0, none⟩) 1 l442 :: Ass.box 91 g236 [.slice A355 x354.length C356, .slice A359 x358.length C360] :: Ass.own 3 (Kd.int .i64) A774 C775 l444 :: os) 34 (by kernel_rfl) (by kernel_rfl) (by kernel_rfl) (by kernel_rfl) h443 (fun _ _ => rfl) ?_)
              intro A774 C775 w hS
              have hC : Core B [] [Ro.sl (Kd.int .i64) (some ad434) C246 l244, Ro.sl (Kd.int .i64) A10 C11 l9] _ := ⟨_, _, hS⟩
              refine ⟨hC, ?_⟩
              refine ED.quick hN hF hC [17, 18] [3, 12, 13, 14, 19, 25, 34, 36] 4 [(3, .pointer (some ⟨g236, 0, none⟩)), (12, .slice (some ad434) l244.length C246), (13, .int .i64 (l244.length : Int)), (14, .int .i64 x362), (19, .pointer (some ⟨g236, 0, none⟩)), (25, .slice A772 l438.length C773), (34, .slice A774 l444.length C775), (36, .pointer (some ⟨g236, 0, none⟩))] #[true, true, true, true, true, true, true, true, true, true, true, true, true, true, true, true, true, true, true, false, false, false, false] (by kernel_rfl) (by kernel_rfl) ?_
              refine ED.one 19 3 #[true, true, true, true, true, true, true, true, true, true, true, true, true, true, true, true, true, true, true, true, false, false, false] (by kernel_rfl) (by kernel_rfl) (by kernel_rfl) (EO.storeBox (os' := Ass.deep 94 96 kS96 A772 C773 l438 :: Ass.own 3 (Kd.int .i64) (some ⟨g771, 0, none⟩) 1 l442 :: Ass.box 91 g236 [.slice A772 l438.length C773, .slice A359 x358.length C360] :: Ass.own 3 (Kd.int .i64) A774 C775 l444 :: os) hS 2 rfl 89 0 (.slice A772 l438.length C773) [.slice A772 l438.length C773, .slice A359 x358.length C360] (by kernel_rfl) (by kernel_rfl) (by kernel_rfl) (by kernel_rfl) (by kernel_rfl) (by kernel_rfl) rfl rfl ?_)
              intro w hS
              have hC : Core B [] [Ro.sl (Kd.int .i64) (some ad434) C246 l244, Ro.sl (Kd.int .i64) A10 C11 l9] _ := ⟨_, _, hS⟩
              refine ⟨hC, ?_⟩
              refine ED.quick hN hF hC [20, 21] [3, 12, 13, 14, 34, 38] 1 [(3, .pointer (some ⟨g236, 0, none⟩)), (12, .slice (some ad434) l244.length C246), (13, .int .i64 (l244.length : Int)), (14, .int .i64 x362), (34, .slice A774 l444.length C775), (38, .pointer (some ⟨g236, 1, none⟩))] #[true, true, true, true, true, true, true, true, true, true, true, true, true, true, true, true, true, true, true, true, true, true, false] (by kernel_rfl) (by kernel_rfl) ?_
              refine ED.one 22 0 #[true, true, true, true, true, true, true, true, true, true, true, true, true, true, true, true, true, true, true, true, true, true, true] (by kernel_rfl) (by kernel_rfl) (by kernel_rfl) (EO.storeBox (os' := Ass.deep 94 96 kS96 A772 C773 l438 :: Ass.own 3 (Kd.int .i64) (some ⟨g771, 0, none⟩) 1 l442 :: Ass.box 91 g236 [.slice A772 l438.length C773, .slice A774 l444.length C775] :: Ass.own 3 (Kd.int .i64) A774 C775 l444 :: os) hS 2 rfl 66 1 (.slice A774 l444.length C775) [.slice A772 l438.length C773, .slice A774 l444.length C775] (by kernel_rfl) (by kernel_rfl) (by kernel_rfl) (by kernel_rfl) (by kernel_rfl) (by kernel_rfl) rfl rfl ?_)
              intro w hS
              have hC : Core B [] [Ro.sl (Kd.int .i64) (some ad434) C246 l244, Ro.sl (Kd.int .i64) A10 C11 l9] _ := ⟨_, _, hS⟩
              refine ⟨hC, ?_⟩
              refine ED.done (by kernel_rfl) ?_
              refine EQ.to ?_
              refine EQ.keep [3, 12, 13, 14] [(3, .pointer (some ⟨g236, 0, none⟩)), (12, .slice (some ad434) l244.length C246), (13, .int .i64 (l244.length : Int)), (14, .int .i64 x362)] (by kernel_rfl) ?_
              exact fun a ha => ⟨(some ⟨g771, 0, none⟩), 1, A772, C773, A774, C775, ha, (hS.re [3, 3, 2, 3] [] rfl (sub_cons 0 rfl (sub_cons 1 rfl (sub_tail (sub_tail (sub_self))))))⟩
          · refine EO.lit hS (Kd.int .i64) 3 66 1 #[(0, .int .i64 (mn (mx (l244.getD x362.toNat 0) 0) 4096))] [.int .i64 (mn (mx (l244.getD x362.toNat 0) 0) 4096)] l442 33 (by kernel_rfl) (by kernel_rfl) (by kernel_rfl) (fun _ => (by kernel_rfl)) (by rw [hl442]; rfl) (by kernel_rfl) (fun w G hr => (by rw [hl442]; exact ⟨[.int .i64 (mn (mx (l244.getD x362.toNat 0) 0) 4096)], [], rfl, rfl, rfl⟩)) ?_
            intro g776 w hS
            have hC : Core B [] [Ro.sl (Kd.int .i64) (some ad434) C246 l244, Ro.sl (Kd.int .i64) A10 C11 l9] _ := ⟨_, _, hS⟩
            refine ⟨hC, ?_⟩
            refine ED.at' #[true, true, true, true, true, false, true, false, true, true, true, false, true, true, true, true, false, false, false, false, false, false, false] (by kernel_rfl) ?_
            refine ED.two 5 11 9 (by kernel_rfl) (by kernel_rfl) ?_ ?_
            · refine EO.Y (YO.loadBox hS 3 rfl 89 0 1 (.slice A355 x354.length C356) 23 (by kernel_rfl) (by kernel_rfl) (by kernel_rfl) (by kernel_rfl)) ?_
              have hC : Core B [] [Ro.sl (Kd.int .i64) (some ad434) C246 l244, Ro.sl (Kd.int .i64) A10 C11 l9] _ := ⟨_, _, hS⟩
              refine ⟨hC, ?_⟩
              refine ED.at' #[true, true, true, true, true, true, true, false, true, true, true, false, true, true, true, true, false, false, false, false, false, false, false] (by kernel_rfl) ?_
              refine ED.two 7 11 8 (by kernel_rfl) (by kernel_rfl) ?_ ?_
              · have hS := St.as (os' := Ass.deep 94 96 kS96 (some ⟨g732, 0, none⟩) 1 ([([] : List S96)] : List (List S96)) :: Ass.own 3 (Kd.int .i64) (some ⟨g776, 0, none⟩) 1 l442 :: Ass.box 91 g236 [.slice A355 x354.length C356, .slice A359 x358.length C360] :: Ass.deep 94 96 kS96 A355 C356 x354 :: Ass.own 3 (Kd.int .i64) A359 C360 x358 :: os) (St.fold (B := B) (os := _) (rs := _) (et := 94) (et' := 96) (K := kS96) (hs := [(none, ([] : List S96).length, 0)]) (xs := ([([] : List S96)] : List (List S96))) ⟨rfl, trivial⟩ (St.re hS [1, 2] [] rfl sub_self)) rfl
                refine EO.appendDeep hS 89 89 24 3 0 kS96 A355 C356 x354 rfl (some ⟨g732, 0, none⟩) 1 ([([] : List S96)] : List (List S96)) rfl l438 hl438 (fun A777 C778 => Ass.deep 94 96 kS96 A777 C778 l438 :: Ass.own 3 (Kd.int .i64) (some ⟨g776, 0, none⟩) 1 l442 :: Ass.box 91 g236 [.slice A355 x354.length C356, .slice A359 x358.length C360] :: Ass.own 3 (Kd.int .i64) A359 C360 x358 :: os) 25 (by kernel_rfl) (by kernel_rfl) (by kernel_rfl) (by kernel_rfl) h437 (fun _ _ => rfl) ?_
                intro A777 C778 w hS
                have hC : Core B [] [Ro.sl (Kd.int .i64) (some ad434) C246 l244, Ro.sl (Kd.int .i64) A10 C11 l9] _ := ⟨_, _, hS⟩
                refine ⟨hC, ?_⟩
                refine ED.at' #[true, true, true, true, true, true, true, true, true, true, true, false, true, true, true, true, false, false, false, false, false, false, false] (by kernel_rfl) ?_
                refine ED.one 11 7 #[true, true, true, true, true, true, true, true, true, true, true, true, true, true, true, true, false, false, false, false, false, false, false] (by kernel_rfl) (by kernel_rfl) (by kernel_rfl) (EO.Y (YO.loadBox hS 2 rfl 66 1 1 (.slice A359 x358.length C360) 29 (by kernel_rfl) (by kernel_rfl) (by kernel_rfl) (by kernel_rfl)) ?_)
                have hC : Core B [] [Ro.sl (Kd.int .i64) (some ad434) C246 l244, Ro.sl (Kd.int .i64) A10 C11 l9] _ := ⟨_, _, hS⟩
                refine ⟨hC, ?_⟩
                refine ED.one 16 6 #[true, true, true, true, true, true, true, true, true, true, true, true, true, true, true, true, true, false, false, false, false, false, false] (by kernel_rfl) (by kernel_rfl) (by kernel_rfl) (EO.append hS 66 66 3 8 3 (Kd.int .i64) A359 C360 x358 rfl (some ⟨g776, 0, none⟩) 1 l442 (Rd.own 1 3 rfl) l444 hl444 (fun A779 C780 => Ass.deep 94 96 kS96 A777 C778 l438 :: Ass.own 3 (Kd.int .i64) (some ⟨g776, 0, none⟩) 1 l442 :: Ass.box 91 g236 [.slice A355 x354.length C356, .slice A359 x358.length C360] :: Ass.own 3 (Kd.int .i64) A779 C780 l444 :: os) 34 (by kernel_rfl) (by kernel_rfl) (by kernel_rfl) (by kernel_rfl) h443 (fun _ _ => rfl) ?_)
                intro A779 C780 w hS
                have hC : Core B [] [Ro.sl (Kd.int .i64) (some ad434) C246 l244, Ro.sl (Kd.int .i64) A10 C11 l9] _ := ⟨_, _, hS⟩
                refine ⟨hC, ?_⟩
                refine ED.quick hN hF hC [17, 18] [3, 12, 13, 14, 19, 25, 34, 36] 4 [(3, .pointer (some ⟨g236, 0, none⟩)), (12, .slice (some ad434) l244.length C246), (13, .int .i64 (l244.length : Int)), (14, .int .i64 x362), (19, .pointer (some ⟨g236, 0, none⟩)), (25, .slice A777 l438.length C778), (34, .slice A779 l444.length C780), (36, .pointer (some ⟨g236, 0, none⟩))] #[true, true, true, true, true, true, true, true, true, true, true, true, true, true, true, true, true, true, true, false, false, false, false] (by kernel_rfl) (by kernel_rfl) ?_
                refine ED.one 19 3 #[true, true, true, true, true, true, true, true, true, true, true, true, true, true, true, true, true, true, true, true, false, false, false] (by kernel_rfl) (by kernel_rfl) (by kernel_rfl) (EO.storeBox (os' := Ass.deep 94 96 kS96 A777 C778 l438 :: Ass.own 3 (Kd.int .i64) (some ⟨g776, 0, none⟩) 1 l442 :: Ass.box 91 g236 [.slice A777 l438.length C778, .slice A359 x358.length C360] :: Ass.own 3 (Kd.int .i64) A779 C780 l444 :: os) hS 2 rfl 89 0 (.slice A777 l438.length C778) [.slice A777 l438.length C778, .slice A359 x358.length C360] (by kernel_rfl) (by kernel_rfl) (by kernel_rfl) (by kernel_rfl) (by kernel_rfl) (by kernel_rfl) rfl rfl ?_)
                intro w hS
                have hC : Core B [] [Ro.sl (Kd.int .i64) (some ad434) C246 l244, Ro.sl (Kd.int .i64) A10 C11 l9] _ := ⟨_, _, hS⟩
                refine ⟨hC, ?_⟩
                refine ED.quick hN hF hC [20, 21] [3, 12, 13, 14, 34, 38] 1 [(3, .pointer (some ⟨g236, 0, none⟩)), (12, .slice (some ad434) l244.length C246), (13, .int .i64 (l244.length : Int)), (14, .int .i64 x362), (34, .slice A779 l444.length C780), (38, .pointer (some ⟨g236, 1, none⟩))] #[true, true, true, true, true, true, true, true, true, true, true, true, true, true, true, true, true, true, true, true, true, true, false] (by kernel_rfl) (by kernel_rfl) ?_
                refine ED.one 22 0 #[true, true, true, true, true, true, true, true, true, true, true, true, true, true, true, true, true, true, true, true, true, true, true] (by kernel_rfl) (by kernel_rfl) (by kernel_rfl) (EO.storeBox (os' := Ass.deep 94 96 kS96 A777 C778 l438 :: Ass.own 3 (Kd.int .i64) (some ⟨g776, 0, none⟩) 1 l442 :: Ass.box 91 g236 [.slice A777 l438.length C778, .slice A779 l444.length C780] :: Ass.own 3 (Kd.int .i64) A779 C780 l444 :: os) hS 2 rfl 66 1 (.slice A779 l444.length C780) [.slice A777 l438.length C778, .slice A779 l444.length C780] (by kernel_rfl) (by kernel_rfl) (by kernel_rfl) (by kernel_rfl) (by kernel_rfl) (by kernel_rfl) rfl rfl ?_)
                intro w hS
                have hC : Core B [] [Ro.sl (Kd.int .i64) (some ad434) C246 l244, Ro.sl (Kd.int .i64) A10 C11 l9] _ := ⟨_, _, hS⟩
                refine ⟨hC, ?_⟩
                refine ED.done (by kernel_rfl) ?_
                refine EQ.to ?_
                refine EQ.keep [3, 12, 13, 14] [(3, .pointer (some ⟨g236, 0, none⟩)), (12, .slice (some ad434) l244.length C246), (13, .int .i64 (l244.length : Int)), (14, .int .i64 x362)] (by kernel_rfl) ?_
                exact fun a ha => ⟨(some ⟨g776, 0, none⟩), 1, A777, C778, A779, C780, ha, (hS.re [3, 3, 2, 3] [] rfl (sub_cons 0 rfl (sub_cons 1 rfl (sub_tail (sub_tail (sub_self))))))⟩
              · refine EO.Y (YO.loadBox hS 3 rfl 66 1 1 (.slice A359 x358.length C360) 29 (by kernel_rfl) (by kernel_rfl) (by kernel_rfl) (by kernel_rfl)) ?_
                have hC : Core B [] [Ro.sl (Kd.int .i64) (some ad434) C246 l244, Ro.sl (Kd.int .i64) A10 C11 l9] _ := ⟨_, _, hS⟩
                refine ⟨hC, ?_⟩
                refine ED.at' #[true, true, true, true, true, true, true, false, true, true, true, true, true, true, true, true, false, false, false, false, false, false, false] (by kernel_rfl) ?_
                have hS := St.as (os' := Ass.deep 94 96 kS96 (some ⟨g732, 0, none⟩) 1 ([([] : List S96)] : List (List S96)) :: Ass.own 3 (Kd.int .i64) (some ⟨g776, 0, none⟩) 1 l442 :: Ass.box 91 g236 [.slice A355 x354.length C356, .slice A359 x358.length C360] :: Ass.deep 94 96 kS96 A355 C356 x354 :: Ass.own 3 (Kd.int .i64) A359 C360 x358 :: os) (St.fold (B := B) (os := _) (rs := _) (et := 94) (et' := 96) (K := kS96) (hs := [(none, ([] : List S96).length, 0)]) (xs := ([([] : List S96)] : List (List S96))) ⟨rfl, trivial⟩ (St.re hS [1, 2] [] rfl sub_self)) rfl
                refine ED.one 7 7 #[true, true, true, true, true, true, true, true, true, true, true, true, true, true, true, true, false, false, false, false, false, false, false] (by kernel_rfl) (by kernel_rfl) (by kernel_rfl) (EO.appendDeep hS 89 89 24 3 0 kS96 A355 C356 x354 rfl (some ⟨g732, 0, none⟩) 1 ([([] : List S96)] : List (List S96)) rfl l438 hl438 (fun A781 C782 => Ass.deep 94 96 kS96 A781 C782 l438 :: Ass.own 3 (Kd.int .i64) (some ⟨g776, 0, none⟩) 1 l442 :: Ass.box 91 g236 [.slice A355 x354.length C356, .slice A359 x358.length C360] :: Ass.own 3 (Kd.int .i64) A359 C360 x358 :: os) 25 (by kernel_rfl) (by kernel_rfl) (by kernel_rfl) (by kernel_rfl) h437 (fun _ _ => rfl) ?_)
                intro A781 C782 w hS
                have hC : Core B [] [Ro.sl (Kd.int .i64) (some ad434) C246 l244, Ro.sl (Kd.int .i64) A10 C11 l9] _ := ⟨_, _, hS⟩
                refine ⟨hC, ?_⟩
                refine ED.one 16 6 #[true, true, true, true, true, true, true, true, true, true, true, true, true, true, true, true, true, false, false, false, false, false, false] (by kernel_rfl) (by kernel_rfl) (by kernel_rfl) (EO.append hS 66 66 3 8 3 (Kd.int .i64) A359 C360 x358 rfl (some ⟨g776, 0, none⟩) 1 l442 (Rd.own 1 3 rfl) l444 hl444 (fun A783 C784 => Ass.deep 94 96 kS96 A781 C782 l438 :: Ass.own 3 (Kd.int .i64) (some ⟨g776, 0, none⟩) 1 l442 :: Ass.box 91 g236 [.slice A355 x354.length C356, .slice A359 x358.length C360] :: Ass.own 3 (Kd.int .i64) A783 C784 l444 :: os) 34 (by kernel_rfl) (by kernel_rfl) (by kernel_rfl) (by kernel_rfl) h443 (fun _ _ => rfl) ?_)
                intro A783 C784 w hS
                have hC : Core B [] [Ro.sl (Kd.int .i64) (some ad434) C246 l244, Ro.sl (Kd.int .i64) A10 C11 l9] _ := ⟨_, _, hS⟩
                refine ⟨hC, ?_⟩
                refine ED.quick hN hF hC [17, 18] [3, 12, 13, 14, 19, 25, 34, 36] 4 [(3, .pointer (some ⟨g236, 0, none⟩)), (12, .slice (some ad434) l244.length C246), (13, .int .i64 (l244.length : Int)), (14, .int .i64 x362), (19, .pointer (some ⟨g236, 0, none⟩)), (25, .slice A781 l438.length C782), (34, .slice A783 l444.length C784), (36, .pointer (some ⟨g236, 0, none⟩))] #[true, true, true, true, true, true, true, true, true, true, true, true, true, true, true, true, true, true, true, false, false, false, false] (by kernel_rfl) (by kernel_rfl) ?_
                refine ED.one 19 3 #[true, true, true, true, true, true, true, true, true, true, true, true, true, true, true, true, true, true, true, true, false, false, false] (by kernel_rfl) (by kernel_rfl) (by kernel_rfl) (EO.storeBox (os' := Ass.deep 94 96 kS96 A781 C782 l438 :: Ass.own 3 (Kd.int .i64) (some ⟨g776, 0, none⟩) 1 l442 :: Ass.box 91 g236 [.slice A781 l438.length C782, .slice A359 x358.length C360] :: Ass.own 3 (Kd.int .i64) A783 C784 l444 :: os) hS 2 rfl 89 0 (.slice A781 l438.length C782) [.slice A781 l438.length C782, .slice A359 x358.length C360] (by kernel_rfl) (by kernel_rfl) (by kernel_rfl) (by kernel_rfl) (by kernel_rfl) (by kernel_rfl) rfl rfl ?_)
                intro w hS
                have hC : Core B [] [Ro.sl (Kd.int .i64) (some ad434) C246 l244, Ro.sl (Kd.int .i64) A10 C11 l9] _ := ⟨_, _, hS⟩
                refine ⟨hC, ?_⟩
                refine ED.quick hN hF hC [20, 21] [3, 12, 13, 14, 34, 38] 1 [(3, .pointer (some ⟨g236, 0, none⟩)), (12, .slice (some ad434) l244.length C246), (13, .int .i64 (l244.length : Int)), (14, .int .i64 x362), (34, .slice A783 l444.length C784), (38, .pointer (some ⟨g236, 1, none⟩))] #[true, true, true, true, true, true, true, true, true, true, true, true, true, true, true, true, true, true, true, true, true, true, false] (by kernel_rfl) (by kernel_rfl) ?_
                refine ED.one 22 0 #[true, true, true, true, true, true, true, true, true, true, true, true, true, true, true, true, true, true, true, true, true, true, true] (by kernel_rfl) (by kernel_rfl) (by kernel_rfl) (EO.storeBox (os' := Ass.deep 94 96 kS96 A781 C782 l438 :: Ass.own 3 (Kd.int .i64) (some ⟨g776, 0, none⟩) 1 l442 :: Ass.box 91 g236 [.slice A781 l438.length C782, .slice A783 l444.length C784] :: Ass.own 3 (Kd.int .i64) A783 C784 l444 :: os) hS 2 rfl 66 1 (.slice A783 l444.length C784) [.slice A781 l438.length C782, .slice A783 l444.length C784] (by kernel_rfl) (by kernel_rfl) (by kernel_rfl) (by kernel_rfl) (by kernel_rfl) (by kernel_rfl) rfl rfl ?_)
                intro w hS
                have hC : Core B [] [Ro.sl (Kd.int .i64) (some ad434) C246 l244, Ro.sl (Kd.int .i64) A10 C11 l9] _ := ⟨_, _, hS⟩
                refine ⟨hC, ?_⟩
                refine ED.done (by kernel_rfl) ?_
                refine EQ.to ?_
                refine EQ.keep [3, 12, 13, 14] [(3, .pointer (some ⟨g236, 0, none⟩)), (12, .slice (some ad434) l244.length C246), (13, .int .i64 (l244.length : Int)), (14, .int .i64 x362)] (by kernel_rfl) ?_
                exact fun a ha => ⟨(some ⟨g776, 0, none⟩), 1, A781, C782, A783, C784, ha, (hS.re [3, 3, 2, 3] [] rfl (sub_cons 0 rfl (sub_cons 1 rfl (sub_tail (sub_tail (sub_self))))))⟩
            · refine EO.Y (YO.loadBox hS 3 rfl 66 1 1 (.slice A359 x358.length C360) 29 (by kernel_rfl) (by kernel_rfl) (by kernel_rfl) (by kernel_rfl)) ?_
              have hC : Core B [] [Ro.sl (Kd.int .i64) (some ad434) C246 l244, Ro.sl (Kd.int .i64) A10 C11 l9] _ := ⟨_, _, hS⟩
              refine ⟨hC, ?_⟩
              refine ED.at' #[true, true, true, true, true, false, true, false, true, true, true, true, true, true, true, true, false, false, false, false, false, false, false] (by kernel_rfl) ?_
              refine ED.one 5 8 #[true, true, true, true, true, true, true, false, true, true, true, true, true, true, true, true, false, false, false, false, false, false, false] (by kernel_rfl) (by kernel_rfl) (by kernel_rfl) (EO.Y (YO.loadBox hS 3 rfl 89 0 1 (.slice A355 x354.length C356) 23 (by kernel_rfl) (by kernel_rfl) (by kernel_rfl) (by kernel_rfl)) ?_)
              have hC : Core B [] [Ro.sl (Kd.int .i64) (some ad434) C246 l244, Ro.sl (Kd.int .i64) A10 C11 l9] _ := ⟨_, _, hS⟩
              refine ⟨hC, ?_⟩
              have hS := St.as (os' := Ass.deep 94 96 kS96 (some ⟨g732, 0, none⟩) 1 ([([] : List S96)] : List (List S96)) :: Ass.own 3 (Kd.int .i64) (some ⟨g776, 0, none⟩) 1 l442 :: Ass.box 91 g236 [.slice A355 x354.length C356, .slice A359 x358.length C360] :: Ass.deep 94 96 kS96 A355 C356 x354 :: Ass.own 3 (Kd.int .i64) A359 C360 x358 :: os) (St.fold (B := B) (os := _) (rs := _) (et := 94) (et' := 96) (K := kS96) (hs := [(none, ([] : List S96).length, 0)]) (xs := ([([] : List S96)] : List (List S96))) ⟨rfl, trivial⟩ (St.re hS [1, 2] [] rfl sub_self)) rfl
              refine ED.one 7 7 #[true, true, true, true, true, true, true, true, true, true, true, true, true, true, true, true, false, false, false, false, false, false, false] (by kernel_rfl) (by kernel_rfl) (by kernel_rfl) (EO.appendDeep hS 89 89 24 3 0 kS96 A355 C356 x354 rfl (some ⟨g732, 0, none⟩) 1 ([([] : List S96)] : List (List S96)) rfl l438 hl438 (fun A785 C786 => Ass.deep 94 96 kS96 A785 C786 l438 :: Ass.own 3 (Kd.int .i64) (some ⟨g776, 0, none⟩) 1 l442 :: Ass.box 91 g236 [.slice A355 x354.length C356, .slice A359 x358.length C360] :: Ass.own 3 (Kd.int .i64) A359 C360 x358 :: os) 25 (by kernel_rfl) (by kernel_rfl) (by kernel_rfl) (by kernel_rfl) h437 (fun _ _ => rfl) ?_)
              intro A785 C786 w hS
              have hC : Core B [] [Ro.sl (Kd.int .i64) (some ad434) C246 l244, Ro.sl (Kd.int .i64) A10 C11 l9] _ := ⟨_, _, hS⟩
              refine ⟨hC, ?_⟩
              refine ED.one 16 6 #[true, true, true, true, true, true, true, true, true, true, true, true, true, true, true, true, true, false, false, false, false, false, false] (by kernel_rfl) (by kernel_rfl) (by kernel_rfl) (EO.append hS 66 66 3 8 3 (Kd.int .i64) A359 C360 x358 rfl (some ⟨g776, 0, none⟩) 1 l442 (Rd.own 1 3 rfl) l444 hl444 (fun A787 C788 => Ass.deep 94 96 kS96 A785 C786 l438 :: Ass.own 3 (Kd.int .i64) (some ⟨g776, 0, none⟩) 1 l442 :: Ass.box 91 g236 [.slice A355 x354.length C356, .slice A359 x358.length C360] :: Ass.own 3 (Kd.int .i64) A787 C788 l444 :: os) 34 (by kernel_rfl) (by kernel_rfl) (by kernel_rfl) (by kernel_rfl) h443 (fun _ _ => rfl) ?_)
              intro A787 C788 w hS
              have hC : Core B [] [Ro.sl (Kd.int .i64) (some ad434) C246 l244, Ro.sl (Kd.int .i64) A10 C11 l9] _ := ⟨_, _, hS⟩
              refine ⟨hC, ?_⟩
              refine ED.quick hN hF hC [17, 18] [3, 12, 13, 14, 19, 25, 34, 36] 4 [(3, .pointer (some ⟨g236, 0, none⟩)), (12, .slice (some ad434) l244.length C246), (13, .int .i64 (l244.length : Int)), (14, .int .i64 x362), (19, .pointer (some ⟨g236, 0, none⟩)), (25, .slice A785 l438.length C786), (34, .slice A787 l444.length C788), (36, .pointer (some ⟨g236, 0, none⟩))] #[true, true, true, true, true, true, true, true, true, true, true, true, true, true, true, true, true, true, true, false, false, false, false] (by kernel_rfl) (by kernel_rfl) ?_
              refine ED.one 19 3 #[true, true, true, true, true, true, true, true, true, true, true, true, true, true, true, true, true, true, true, true, false, false, false] (by kernel_rfl) (by kernel_rfl) (by kernel_rfl) (EO.storeBox (os' := Ass.deep 94 96 kS96 A785 C786 l438 :: Ass.own 3 (Kd.int .i64) (some ⟨g776, 0, none⟩) 1 l442 :: Ass.box 91 g236 [.slice A785 l438.length C786, .slice A359 x358.length C360] :: Ass.own 3 (Kd.int .i64) A787 C788 l444 :: os) hS 2 rfl 89 0 (.slice A785 l438.length C786) [.slice A785 l438.length C786, .slice A359 x358.length C360] (by kernel_rfl) (by kernel_rfl) (by kernel_rfl) (by kernel_rfl) (by kernel_rfl) (by kernel_rfl) rfl rfl ?_)
              intro w hS
              have hC : Core B [] [Ro.sl (Kd.int .i64) (some ad434) C246 l244, Ro.sl (Kd.int .i64) A10 C11 l9] _ := ⟨_, _, hS⟩
              refine ⟨hC, ?_⟩
              refine ED.quick hN hF hC [20, 21] [3, 12, 13, 14, 34, 38] 1 [(3, .pointer (some ⟨g236, 0, none⟩)), (12, .slice (some ad434) l244.length C246), (13, .int .i64 (l244.length : Int)), (14, .int .i64 x362), (34, .slice A787 l444.length C788), (38, .pointer (some ⟨g236, 1, none⟩))] #[true, true, true, true, true, true, true, true, true, true, true, true, true, true, true, true, true, true, true, true, true, true, false] (by kernel_rfl) (by kernel_rfl) ?_
              refine ED.one 22 0 #[true, true, true, true, true, true, true, true, true, true, true, true, true, true, true, true, true, true, true, true, true, true, true] (by kernel_rfl) (by kernel_rfl) (by kernel_rfl) (EO.storeBox (os' := Ass.deep 94 96 kS96 A785 C786 l438 :: Ass.own 3 (Kd.int .i64) (some ⟨g776, 0, none⟩) 1 l442 :: Ass.box 91 g236 [.slice A785 l438.length C786, .slice A787 l444.length C788] :: Ass.own 3 (Kd.int .i64) A787 C788 l444 :: os) hS 2 rfl 66 1 (.slice A787 l444.length C788) [.slice A785 l438.length C786, .slice A787 l444.length C788] (by kernel_rfl) (by kernel_rfl) (by kernel_rfl) (by kernel_rfl) (by kernel_rfl) (by kernel_rfl) rfl rfl ?_)
              intro w hS
              have hC : Core B [] [Ro.sl (Kd.int .i64) (some ad434) C246 l244, Ro.sl (Kd.int .i64) A10 C11 l9] _ := ⟨_, _, hS⟩
              refine ⟨hC, ?_⟩
              refine ED.done (by kernel_rfl) ?_
              refine EQ.to ?_
              refine EQ.keep [3, 12, 13, 14] [(3, .pointer (some ⟨g236, 0, none⟩)), (12, .slice (some ad434) l244.length C246), (13, .int .i64 (l244.length : Int)), (14, .int .i64 x362)] (by kernel_rfl) ?_
              exact fun a ha => ⟨(some ⟨g776, 0, none⟩), 1, A785, C786, A787, C788, ha, (hS.re [3, 3, 2, 3] [] rfl (sub_cons 0 rfl (sub_cons 1 rfl (sub_tail (sub_tail (sub_self))))))⟩
        · refine EO.Y (YO.loadBox hS 0 rfl 66 1 1 (.slice A359 x358.length C360) 29 (by kernel_rfl) (by kernel_rfl) (by kernel_rfl) (by kernel_rfl)) ?_
          have hC : Core B [] [Ro.sl (Kd.int .i64) (some ad434) C246 l244, Ro.sl (Kd.int .i64) A10 C11 l9] _ := ⟨_, _, hS⟩
          refine ⟨hC, ?_⟩
          refine ED.at' #[true, true, true, true, true, false, false, false, true, true, true, true, true, true, true, false, false, false, false, false, false, false, false] (by kernel_rfl) ?_
          refine ED.many 5 [6, 15] 10 (by kernel_rfl) (by kernel_rfl) (Each.cons ?_ (Each.cons ?_ (Each.cons ?_ Each.nil)))
          · refine EO.Y (YO.loadBox hS 0 rfl 89 0 1 (.slice A355 x354.length C356) 23 (by kernel_rfl) (by kernel_rfl) (by kernel_rfl) (by kernel_rfl)) ?_
            have hC : Core B [] [Ro.sl (Kd.int .i64) (some ad434) C246 l244, Ro.sl (Kd.int .i64) A10 C11 l9] _ := ⟨_, _, hS⟩
            refine ⟨hC, ?_⟩
            refine ED.at' #[true, true, true, true, true, true, false, false, true, true, true, true, true, true, true, false, false, false, false, false, false, false, false] (by kernel_rfl) ?_
            refine ED.two 6 15 9 (by kernel_rfl) (by kernel_rfl) ?_ ?_
            · refine EO.lit (xs := ([(none, ([] : List S96).length, 0)] : List Hdr)) hS Kd.hdr 94 89 1 #[(0, .slice none ([] : List S96).length 0)] [.slice none ([] : List S96).length 0] 24 (by kernel_rfl) (by kernel_rfl) (by kernel_rfl) (fun _ => (by kernel_rfl)) rfl (by kernel_rfl) (fun w G hr => ⟨[.slice none ([] : List S96).length 0], [], rfl, rfl, rfl⟩) ?_
              intro g789 w hS
              have hS := St.nilO hS 96 kS96
              have hC : Core B [] [Ro.sl (Kd.int .i64) (some ad434) C246 l244, Ro.sl (Kd.int .i64) A10 C11 l9] _ := ⟨_, _, hS⟩
              refine ⟨hC, ?_⟩
              refine ED.at' #[true, true, true, true, true, true, true, false, true, true, true, true, true, true, true, false, false, false, false, false, false, false, false] (by kernel_rfl) ?_
              refine ED.two 7 15 8 (by kernel_rfl) (by kernel_rfl) ?_ ?_
              · have hS := St.as (os' := Ass.deep 94 96 kS96 (some ⟨g789, 0, none⟩) 1 ([([] : List S96)] : List (List S96)) :: Ass.box 91 g236 [.slice A355 x354.length C356, .slice A359 x358.length C360] :: Ass.deep 94 96 kS96 A355 C356 x354 :: Ass.own 3 (Kd.int .i64) A359 C360 x358 :: os) (St.fold (B := B) (os := _) (rs := _) (et := 94) (et' := 96) (K := kS96) (hs := [(none, ([] : List S96).length, 0)]) (xs := ([([] : List S96)] : List (List S96))) ⟨rfl, trivial⟩ (St.re hS [0, 1] [] rfl sub_self)) rfl
                refine EO.appendDeep hS 89 89 24 2 0 kS96 A355 C356 x354 rfl (some ⟨g789, 0, none⟩) 1 ([([] : List S96)] : List (List S96)) rfl l438 hl438 (fun A791 C792 => Ass.deep 94 96 kS96 A791 C792 l438 :: Ass.box 91 g236 [.slice A355 x354.length C356, .slice A359 x358.length C360] :: Ass.own 3 (Kd.int .i64) A359 C360 x358 :: os) 25 (by kernel_rfl) (by kernel_rfl) (by kernel_rfl) (by kernel_rfl) h437 (fun _ _ => rfl) ?_
                intro A791 C792 w hS
                have hC : Core B [] [Ro.sl (Kd.int .i64) (some ad434) C246 l244, Ro.sl (Kd.int .i64) A10 C11 l9] _ := ⟨_, _, hS⟩
                refine ⟨hC, ?_⟩
                refine ED.at' #[true, true, true, true, true, true, true, true, true, true, true, true, true, true, true, false, false, false, false, false, false, false, false] (by kernel_rfl) ?_
                refine ED.one 15 7 #[true, true, true, true, true, true, true, true, true, true, true, true, true, true, true, true, false, false, false, false, false, false, false] (by kernel_rfl) (by kernel_rfl) (by kernel_rfl) (EO.lit hS (Kd.int .i64) 3 66 1 #[(0, .int .i64 (mn (mx (l244.getD x362.toNat 0) 0) 4096))] [.int .i64 (mn (mx (l244.getD x362.toNat 0) 0) 4096)] l442 33 (by kernel_rfl) (by kernel_rfl) (by kernel_rfl) (fun _ => (by kernel_rfl)) (by rw [hl442]; rfl) (by kernel_rfl) (fun w G hr => (by rw [hl442]; exact ⟨[.int .i64 (mn (mx (l244.getD x362.toNat 0) 0) 4096)], [], rfl, rfl, rfl⟩)) ?_)
                intro g793 w hS
                have hC : Core B [] [Ro.sl (Kd.int .i64) (some ad434) C246 l244, Ro.sl (Kd.int .i64) A10 C11 l9] _ := ⟨_, _, hS⟩
                refine ⟨hC, ?_⟩
                refine ED.one 16 6 #[true, true, true, true, true, true, true, true, true, true, true, true, true, true, true, true, true, false, false, false, false, false, false] (by kernel_rfl) (by kernel_rfl) (by kernel_rfl) (EO.append hS 66 66 3 8 3 (Kd.int .i64) A359 C360 x358 rfl (some ⟨g793, 0, none⟩) 1 l442 (Rd.own 0 3 rfl) l444 hl444 (fun A794 C795 => Ass.own 3 (Kd.int .i64) (some ⟨g793, 0, none⟩) 1 l442 :: Ass.deep 94 96 kS96 A791 C792 l438 :: Ass.box 91 g236 [.slice A355 x354.length C356, .slice A359 x358.length C360] :: Ass.own 3 (Kd.int .i64) A794 C795 l444 :: os) 34 (by kernel_rfl) (by kernel_rfl) (by kernel_rfl) (by kernel_rfl) h443 (fun _ _ => rfl) ?_)
                intro A794 C795 w hS
                have hC : Core B [] [Ro.sl (Kd.int .i64) (some ad434) C246 l244, Ro.sl (Kd.int .i64) A10 C11 l9] _ := ⟨_, _, hS⟩
                refine ⟨hC, ?_⟩
                refine ED.quick hN hF hC [17, 18] [3, 12, 13, 14, 19, 25, 34, 36] 4 [(3, .pointer (some ⟨g236, 0, none⟩)), (12, .slice (some ad434) l244.length C246), (13, .int .i64 (l244.length : Int)), (14, .int .i64 x362), (19, .pointer (some ⟨g236, 0, none⟩)), (25, .slice A791 l438.length C792), (34, .slice A794 l444.length C795), (36, .pointer (some ⟨g236, 0, none⟩))] #[true, true, true, true, true, true, true, true, true, true, true, true, true, true, true, true, true, true, true, false, false, false, false] (by kernel_rfl) (by kernel_rfl) ?_
                refine ED.one 19 3 #[true, true, true, true, true, true, true, true, true, true, true, true, true, true, true, true, true, true, true, true, false, false, false] (by kernel_rfl) (by kernel_rfl) (by kernel_rfl) (EO.storeBox (os' := Ass.own 3 (Kd.int .i64) (some ⟨g793, 0, none⟩) 1 l442 :: Ass.deep 94 96 kS96 A791 C792 l438 :: Ass.box 91 g236 [.slice A791 l438.length C792, .slice A359 x358.length C360] :: Ass.own 3 (Kd.int .i64) A794 C795 l444 :: os) hS 2 rfl 89 0 (.slice A791 l438.length C792) [.slice A791 l438.length C792, .slice A359 x358.length C360] (by kernel_rfl) (by kernel_rfl) (by kernel_rfl) (by kernel_rfl) (by kernel_rfl) (by kernel_rfl) rfl rfl ?_)
                intro w hS
                have hC : Core B [] [Ro.sl (Kd.int .i64) (some ad434) C246 l244, Ro.sl (Kd.int .i64) A10 C11 l9] _ := ⟨_, _, hS⟩
                refine ⟨hC, ?_⟩
                refine ED.quick hN hF hC [20, 21] [3, 12, 13, 14, 34, 38] 1 [(3, .pointer (some ⟨g236, 0, none⟩)), (12, .slice (some ad434) l244.length C246), (13, .int .i64 (l244.length : Int)), (14, .int .i64 x362), (34, .slice A794 l444.length C795), (38, .pointer (some ⟨g236, 1, none⟩))] #[true, true, true, true, true, true, true, true, true, true, true, true, true, true, true, true, true, true, true, true, true, true, false] (by kernel_rfl) (by kernel_rfl) ?_
                refine ED.one 22 0 #[true, true, true, true, true, true, true, true, true, true, true, true, true, true, true, true, true, true, true, true, true, true, true] (by kernel_rfl) (by kernel_rfl) (by kernel_rfl) (EO.storeBox (os' := Ass.own 3 (Kd.int .i64) (some ⟨g793, 0, none⟩) 1 l442 :: Ass.deep 94 96 kS96 A791 C792 l438 :: Ass.box 91 g236 [.slice A791 l438.length C792, .slice A794 l444.length C795] :: Ass.own 3 (Kd.int .i64) A794 C795 l444 :: os) hS 2 rfl 66 1 (.slice A794 l444.length C795) [.slice A791 l438.length C792, .slice A794 l444.length C795] (by kernel_rfl) (by kernel_rfl) (by kernel_rfl) (by kernel_rfl) (by kernel_rfl) (by kernel_rfl) rfl rfl ?_)
                intro w hS
                have hC : Core B [] [Ro.sl (Kd.int .i64) (some ad434) C246 l244, Ro.sl (Kd.int .i64) A10 C11 l9] _ := ⟨_, _, hS⟩
                refine ⟨hC, ?_⟩
                refine ED.done (by kernel_rfl) ?_
                refine EQ.to ?_
                refine EQ.keep [3, 12, 13, 14] [(3, .pointer (some ⟨g236, 0, none⟩)), (12, .slice (some ad434) l244.length C246), (13, .int .i64 (l244.length : Int)), (14, .int .i64 x362)] (by kernel_rfl) ?_
                exact fun a ha => ⟨(some ⟨g793, 0, none⟩), 1, A791, C792, A794, C795, ha, (hS.re [3, 3, 3, 3] [] rfl (sub_cons 0 rfl (sub_cons 1 rfl (sub_tail (sub_tail (sub_self))))))⟩
              · refine EO.lit hS (Kd.int .i64) 3 66 1 #[(0, .int .i64 (mn (mx (l244.getD x362.toNat 0) 0) 4096))] [.int .i64 (mn (mx (l244.getD x362.toNat 0) 0) 4096)] l442 33 (by kernel_rfl) (by kernel_rfl) (by kernel_rfl) (fun _ => (by kernel_rfl)) (by rw [hl442]; rfl) (by kernel_rfl) (fun w G hr => (by rw [hl442]; exact ⟨[.int .i64 (mn (mx (l244.getD x362.toNat 0) 0) 4096)], [], rfl, rfl, rfl⟩)) ?_
                intro g796 w hS
                have hC : Core B [] [Ro.sl (Kd.int .i64) (some ad434) C246 l244, Ro.sl (Kd.int .i64) A10 C11 l9] _ := ⟨_, _, hS⟩
                refine ⟨hC, ?_⟩
                refine ED.at' #[true, true, true, true, true, true, true, false, true, true, true, true, true, true, true, true, false, false, false, false, false, false, false] (by kernel_rfl) ?_
                have hS := St.as (os' := Ass.deep 94 96 kS96 (some ⟨g789, 0, none⟩) 1 ([([] : List S96)] : List (List S96)) :: Ass.own 3 (Kd.int .i64) (some ⟨g796, 0, none⟩) 1 l442 :: Ass.box 91 g236 [.slice A355 x354.length C356, .slice A359 x358.length C360] :: Ass.deep 94 96 kS96 A355 C356 x354 :: Ass.own 3 (Kd.int .i64) A359 C360 x358 :: os) (St.fold (B := B) (os := _) (rs := _) (et := 94) (et' := 96) (K := kS96) (hs := [(none, ([] : List S96).length, 0)]) (xs := ([([] : List S96)] : List (List S96))) ⟨rfl, trivial⟩ (St.re hS [1, 2] [] rfl sub_self)) rfl
                refine ED.one 7 7 #[true, true, true, true, true, true, true, true, true, true, true, true, true, true, true, true, false, false, false, false, false, false, false] (by kernel_rfl) (by kernel_rfl) (by kernel_rfl) (EO.appendDeep hS 89 89 24 3 0 kS96 A355 C356 x354 rfl (some ⟨g789, 0, none⟩) 1 ([([] : List S96)] : List (List S96)) rfl l438 hl438 (fun A797 C798 => Ass.deep 94 96 kS96 A797 C798 l438 :: Ass.own 3 (Kd.int .i64) (some ⟨g796, 0, none⟩) 1 l442 :: Ass.box 91 g236 [.slice A355 x354.length C356, .slice A359 x358.length C360] :: Ass.own 3 (Kd.int .i64) A359 C360 x358 :: os) 25 (by kernel_rfl) (by kernel_rfl) (by kernel_rfl) (by kernel_rfl) h437 (fun _ _ => rfl) ?_)
                intro A797 C798 w hS
                have hC : Core B [] [Ro.sl (Kd.int .i64) (some ad434) C246 l244, Ro.sl (Kd.int .i64) A10 C11 l9] _ := ⟨_, _, hS⟩
                refine ⟨hC, ?_⟩
                refine ED.one 16 6 #[true, true, true, true, true, true, true, true, true, true, true, true, true, true, true, true, true, false, false, false, false, false, false] (by kernel_rfl) (by kernel_rfl) (by kernel_rfl) (EO.append hS 66 66 3 8 3 (Kd.int .i64) A359 C360 x358 rfl (some ⟨g796, 0, none⟩) 1 l442 (Rd.own 1 3 rfl) l444 hl444 (fun A799 C800 => Ass.deep 94 96 kS96 A797 C798 l438 :: Ass.own 3 (Kd.int .i64) (some ⟨g796, 0, none⟩) 1 l442 :: Ass.box 91 g236 [.slice A355 x354.length C356, .slice A359 x358.length C360] :: Ass.own 3 (Kd.int .i64) A799 C800 l444 :: os) 34 (by kernel_rfl) (by kernel_rfl) (by kernel_rfl) (by kernel_rfl) h443 (fun _ _ => rfl) ?_)
                intro A799 C800 w hS
                have hC : Core B [] [Ro.sl (Kd.int .i64) (some ad434) C246 l244, Ro.sl (Kd.int .i64) A10 C11 l9] _ := ⟨_, _, hS⟩
                refine ⟨hC, ?_⟩
                refine ED.quick hN hF hC [17, 18] [3, 12, 13, 14, 19, 25, 34, 36] 4 [(3, .pointer (some ⟨g236, 0, none⟩)), (12, .slice (some ad434) l244.length C246), (13, .int .i64 (l244.length : Int)), (14, .int .i64 x362), (19, .pointer (some ⟨g236, 0, none⟩)), (25, .slice A797 l438.length C798), (34, .slice A799 l444.length C800), (36, .pointer (some ⟨g236, 0, none⟩))] #[true, true, true, true, true, true, true, true, true, true, true, true, true, true, true, true, true, true, true, false, false, false, false] (by kernel_rfl) (by kernel_rfl) ?_
                refine ED.one 19 3 #[true, true, true, true, true, true, true, true, true, true, true, true, true, true, true, true, true, true, true, true, false, false, false] (by kernel_rfl) (by kernel_rfl) (by kernel_rfl) (EO.storeBox (os' := Ass.deep 94 96 kS96 A797 C798 l438 :: Ass.own 3 (Kd.int .i64) (some ⟨g796, 0, none⟩) 1 l442 :: Ass.box 91 g236 [.slice A797 l438.length C798, .slice A359 x358.length C360] :: Ass.own 3 (Kd.int .i64) A799 C800 l444 :: os) hS 2 rfl 89 0 (.slice A797 l438.length C798) [.slice A797 l438.length C798, .slice A359 x358.length C360] (by kernel_rfl) (by kernel_rfl) (by kernel_rfl) (by kernel_rfl) (by kernel_rfl) (by kernel_rfl) rfl rfl ?_)
                intro w hS
                have hC : Core B [] [Ro.sl (Kd.int .i64) (some ad434) C246 l244, Ro.sl (Kd.int .i64) A10 C11 l9] _ := ⟨_, _, hS⟩
                refine ⟨hC, ?_⟩
                refine ED.quick hN hF hC [20, 21] [3, 12, 13, 14, 34, 38] 1 [(3, .pointer (some ⟨g236, 0, none⟩)), (12, .slice (some ad434) l244.length C246), (13, .int .i64 (l244.length : Int)), (14, .int .i64 x362), (34, .slice A799 l444.length C800), (38, .pointer (some ⟨g236, 1, none⟩))] #[true, true, true, true, true, true, true, true, true, true, true, true, true, true, true, true, true, true, true, true, true, true, false] (by kernel_rfl) (by kernel_rfl) ?_
                refine ED.one 22 0 #[true, true, true, true, true, true, true, true, true, true, true, true, true, true, true, true, true, true, true, true, true, true, true] (by kernel_rfl) (by kernel_rfl) (by kernel_rfl) (EO.storeBox (os' := Ass.deep 94 96 kS96 A797 C798 l438 :: Ass.own 3 (Kd.int .i64) (some ⟨g796, 0, none⟩) 1 l442 :: Ass.box 91 g236 [.slice A797 l438.length C798, .slice A799 l444.length C800] :: Ass.own 3 (Kd.int .i64) A799 C800 l444 :: os) hS 2 rfl 66 1 (.slice A799 l444.length C800) [.slice A797 l438.length C798, .slice A799 l444.length C800] (by kernel_rfl) (by kernel_rfl) (by kernel_rfl) (by kernel_rfl) (by kernel_rfl) (by kernel_rfl) rfl rfl ?_)
                intro w hS
                have hC : Core B [] [Ro.sl (Kd.int .i64) (some ad434) C246 l244, Ro.sl (Kd.int .i64) A10 C11 l9] _ := ⟨_, _, hS⟩
                refine ⟨hC, ?_⟩
                refine ED.done (by kernel_rfl) ?_
                refine EQ.to ?_
                refine EQ.keep [3, 12, 13, 14] [(3, .pointer (some ⟨g236, 0, none⟩)), (12, .slice (some ad434) l244.length C246), (13, .int .i64 (l244.length : Int)), (14, .int .i64 x362)] (by kernel_rfl) ?_
                exact fun a ha => ⟨(some ⟨g796, 0, none⟩), 1, A797, C798, A799, C800, ha, (hS.re [3, 3, 2, 3] [] rfl (sub_cons 0 rfl (sub_cons 1 rfl (sub_tail (sub_tail (sub_self))))))⟩
            · refine EO.lit hS (Kd.int .i64) 3 66 1 #[(0, .int .i64 (mn (mx (l244.getD x362.toNat 0) 0) 4096))] [.int .i64 (mn (mx (l244.getD x362.toNat 0) 0) 4096)] l442 33 (by kernel_rfl) (by kernel_rfl) (by kernel_rfl) (fun _ => (by kernel_rfl)) (by rw [hl442]; rfl) (by kernel_rfl) (fun w G hr => (by rw [hl442]; exact ⟨[.int .i64 (mn (mx (l244.getD x362.toNat 0) 0) 4096)], [], rfl, rfl, rfl⟩)) ?_
              intro g801 w hS
              have hC : Core B [] [Ro.sl (Kd.int .i64) (some ad434) C246 l244, Ro.sl (Kd.int .i64) A10 C11 l9] _ := ⟨_, _, hS⟩
              refine ⟨hC, ?_⟩
              refine ED.at' #[true, true, true, true, true, true, false, false, true, true, true, true, true, true, true, true, false, false, false, false, false, false, false] (by kernel_rfl) ?_
              refine ED.one 6 8 #[true, true, true, true, true, true, true, false, true, true, true, true, true, true, true, true, false, false, false, false, false, false, false] (by kernel_rfl) (by kernel_rfl) (by kernel_rfl) (EO.lit (xs := ([(none, ([] : List S96).length, 0)] : List Hdr)) hS Kd.hdr 94 89 1 #[(0, .slice none ([] : List S96).length 0)] [.slice none ([] : List S96).length 0] 24 (by kernel_rfl) (by kernel_rfl) (by kernel_rfl) (fun _ => (by kernel_rfl)) rfl (by kernel_rfl) (fun w G hr => ⟨[.slice none ([] : List S96).length 0], [], rfl, rfl, rfl⟩) ?_)
              intro g802 w hS
              have hS := St.nilO hS 96 kS96
              have hC : Core B [] [Ro.sl (Kd.int .i64) (some ad434) C246 l244, Ro.sl (Kd.int .i64) A10 C11 l9] _ := ⟨_, _, hS⟩
              refine ⟨hC, ?_⟩
              have hS := St.as (os' := Ass.deep 94 96 kS96 (some ⟨g802, 0, none⟩) 1 ([([] : List S96)] : List (List S96)) :: Ass.own 3 (Kd.int .i64) (some ⟨g801, 0, none⟩) 1 l442 :: Ass.box 91 g236 [.slice A355 x354.length C356, .slice A359 x358.length C360] :: Ass.deep 94 96 kS96 A355 C356 x354 :: Ass.own 3 (Kd.int .i64) A359 C360 x358 :: os) (St.fold (B := B) (os := _) (rs := _) (et := 94) (et' := 96) (K := kS96) (hs := [(none, ([] : List S96).length, 0)]) (xs := ([([] : List S96)] : List (List S96))) ⟨rfl, trivial⟩ (St.re hS [0, 1] [] rfl sub_self)) rfl
              refine ED.one 7 7 #[true, true, true, true, true, true, true, true, true, true, true, true, true, true, true, true, false, false, false, false, false, false, false] (by kernel_rfl) (by kernel_rfl) (by kernel_rfl) (EO.appendDeep hS 89 89 24 3 0 kS96 A355 C356 x354 rfl (some ⟨g802, 0, none⟩) 1 ([([] : List S96)] : List (List S96)) rfl l438 hl438 (fun A804 C805 => Ass.deep 94 96 kS96 A804 C805 l438 :: Ass.own 3 (Kd.int .i64) (some ⟨g801, 0, none⟩) 1 l442 :: Ass.box 91 g236 [.slice A355 x354.length C356, .slice A359 x358.length C360] :: Ass.own 3 (Kd.int .i64) A359 C360 x358 :: os) 25 (by kernel_rfl) (by kernel_rfl) (by kernel_rfl) (by kernel_rfl) h437 (fun _ _ => rfl) ?_)
              intro A804 C805 w hS
              have hC : Core B [] [Ro.sl (Kd.int .i64) (some ad434) C246 l244, Ro.sl (Kd.int .i64) A10 C11 l9] _ := ⟨_, _, hS⟩
              refine ⟨hC, ?_⟩
              refine ED.one 16 6 #[true, true, true, true, true, true, true, true, true, true, true, true, true, true, true, true, true, false, false, false, false, false, false] (by kernel_rfl) (by kernel_rfl) (by kernel_rfl) (EO.append hS 66 66 3 8 3 (Kd.int .i64) A359 C360 x358 rfl (some ⟨g801, 0, none⟩) 1 l442 (Rd.own 1 3 rfl) l444 hl444 (fun A806 C807 => Ass.deep 94 96 kS96 A804 C805 l438 :: Ass.own 3 (Kd.int .i64) (some ⟨g801, 0, none⟩) 1 l442 :: Ass.box 91 g236 [.slice A355 x354.length C356, .slice A359 x358.length C360] :: Ass.own 3 (Kd.int .i64) A806 C807 l444 :: os) 34 (by kernel_rfl) (by kernel_rfl) (by kernel_rfl) (by kernel_rfl) h443 (fun _ _ => rfl) ?_)
              intro A806 C807 w hS
              have hC : Core B [] [Ro.sl (Kd.int .i64) (some ad434) C246 l244, Ro.sl (Kd.int .i64) A10 C11 l9] _ := ⟨_, _, hS⟩
              refine ⟨hC, ?_⟩
              refine ED.quick hN hF hC [17, 18] [3, 12, 13, 14, 19, 25, 34, 36] 4 [(3, .pointer (some ⟨g236, 0, none⟩)), (12, .slice (some ad434) l244.length C246), (13, .int .i64 (l244.length : Int)), (14, .int .i64 x362), (19, .pointer (some ⟨g236, 0, none⟩)), (25, .slice A804 l438.length C805), (34, .slice A806 l444.length C807), (36, .pointer (some ⟨g236, 0, none⟩))] #[true, true, true, true, true, true, true, true, true, true, true, true, true, true, true, true, true, true, true, false, false, false, false] (by kernel_rfl) (by kernel_rfl) ?_
              refine ED.one 19 3 #[true, true, true, true, true, true, true, true, true, true, true, true, true, true, true, true, true, true, true, true, false, false, false] (by kernel_rfl) (by kernel_rfl) (by kernel_rfl) (EO.storeBox (os' := Ass.deep 94 96 kS96 A804 C805 l438 :: Ass.own 3 (Kd.int .i64) (some ⟨g801, 0, none⟩) 1 l442 :: Ass.box 91 g236 [.slice A804 l438.length C805, .slice A359 x358.length C360] :: Ass.own 3 (Kd.int .i64) A806 C807 l444 :: os) hS 2 rfl 89 0 (.slice A804 l438.length C805) [.slice A804 l438.length C805, .slice A359 x358.length C360] (by kernel_rfl) (by kernel_rfl) (by kernel_rfl) (by kernel_rfl) (by kernel_rfl) (by kernel_rfl) rfl rfl ?_)
              intro w hS
              have hC : Core B [] [Ro.sl (Kd.int .i64) (some ad434) C246 l244, Ro.sl (Kd.int .i64) A10 C11 l9] _ := ⟨_, _, hS⟩
              refine ⟨hC, ?_⟩
              refine ED.quick hN hF hC [20, 21] [3, 12, 13, 14, 34, 38] 1 [(3, .pointer (some ⟨g236, 0, none⟩)), (12, .slice (some ad434) l244.length C246), (13, .int .i64 (l244.length : Int)), (14, .int .i64 x362), (34, .slice A806 l444.length C807), (38, .pointer (some ⟨g236, 1, none⟩))] #[true, true, true, true, true, true, true, true, true, true, true, true, true, true, true, true, true, true, true, true, true, true, false] (by kernel_rfl) (by kernel_rfl) ?_
              refine ED.one 22 0 #[true, true, true, true, true, true, true, true, true, true, true, true, true, true, true, true, true, true, true, true, true, true, true] (by kernel_rfl) (by kernel_rfl) (by kernel_rfl) (EO.storeBox (os' := Ass.deep 94 96 kS96 A804 C805 l438 :: Ass.own 3 (Kd.int .i64) (some ⟨g801, 0, none⟩) 1 l442 :: Ass.box 91 g236 [.slice A804 l438.length C805, .slice A806 l444.length C807] :: Ass.own 3 (Kd.int .i64) A806 C807 l444 :: os) hS 2 rfl 66 1 (.slice A806 l444.length C807) [.slice A804 l438.length C805, .slice A806 l444.length C807] (by kernel_rfl) (by kernel_rfl) (by kernel_rfl) (by kernel_rfl) (by kernel_rfl) (by kernel_rfl) rfl rfl ?_)
              intro w hS
              have hC : Core B [] [Ro.sl (Kd.int .i64) (some ad434) C246 l244, Ro.sl (Kd.int .i64) A10 C11 l9] _ := ⟨_, _, hS⟩
              refine ⟨hC, ?_⟩
              refine ED.done (by kernel_rfl) ?_
              refine EQ.to ?_
              refine EQ.keep [3, 12, 13, 14] [(3, .pointer (some ⟨g236, 0, none⟩)), (12, .slice (some ad434) l244.length C246), (13, .int .i64 (l244.length : Int)), (14, .int .i64 x362)] (by kernel_rfl) ?_
              exact fun a ha => ⟨(some ⟨g801, 0, none⟩), 1, A804, C805, A806, C807, ha, (hS.re [3, 3, 2, 3] [] rfl (sub_cons 0 rfl (sub_cons 1 rfl (sub_tail (sub_tail (sub_self))))))⟩
          · refine EO.lit (xs := ([(none, ([] : List S96).length, 0)] : List Hdr)) hS Kd.hdr 94 89 1 #[(0, .slice none ([] : List S96).length 0)] [.slice none ([] : List S96).length 0] 24 (by kernel_rfl) (by kernel_rfl) (by kernel_rfl) (fun _ => (by kernel_rfl)) rfl (by kernel_rfl) (fun w G hr => ⟨[.slice none ([] : List S96).length 0], [], rfl, rfl, rfl⟩) ?_
            intro g808 w hS
            have hS := St.nilO hS 96 kS96
            have hC : Core B [] [Ro.sl (Kd.int .i64) (some ad434) C246 l244, Ro.sl (Kd.int .i64) A10 C11 l9] _ := ⟨_, _, hS⟩
            refine ⟨hC, ?_⟩
            refine ED.at' #[true, true, true, true, true, false, true, false, true, true, true, true, true, true, true, false, false, false, false, false, false, false, false] (by kernel_rfl) ?_
            refine ED.two 5 15 9 (by kernel_rfl) (by kernel_rfl) ?_ ?_
            · refine EO.Y (YO.loadBox hS 2 rfl 89 0 1 (.slice A355 x354.length C356) 23 (by kernel_rfl) (by kernel_rfl) (by kernel_rfl) (by kernel_rfl)) ?_
              have hC : Core B [] [Ro.sl (Kd.int .i64) (some ad434) C246 l244, Ro.sl (Kd.int .i64) A10 C11 l9] _ := ⟨_, _, hS⟩
              refine ⟨hC, ?_⟩
              refine ED.at' #[true, true, true, true, true, true, true, false, true, true, true, true, true, true, true, false, false, false, false, false, false, false, false] (by kernel_rfl) ?_
              refine ED.two 7 15 8 (by kernel_rfl) (by kernel_rfl) ?_ ?_
              · have hS := St.as (os' := Ass.deep 94 96 kS96 (some ⟨g808, 0, none⟩) 1 ([([] : List S96)] : List (List S96)) :: Ass.box 91 g236 [.slice A355 x354.length C356, .slice A359 x358.length C360] :: Ass.deep 94 96 kS96 A355 C356 x354 :: Ass.own 3 (Kd.int .i64) A359 C360 x358 :: os) (St.fold (B := B) (os := _) (rs := _) (et := 94) (et' := 96) (K := kS96) (hs := [(none, ([] : List S96).length, 0)]) (xs := ([([] : List S96)] : List (List S96))) ⟨rfl, trivial⟩ (St.re hS [0, 1] [] rfl sub_self)) rfl
                refine EO.appendDeep hS 89 89 24 2 0 kS96 A355 C356 x354 rfl (some ⟨g808, 0, none⟩) 1 ([([] : List S96)] : List (List S96)) rfl l438 hl438 (fun A810 C811 => Ass.deep 94 96 kS96 A810 C811 l438 :: Ass.box 91 g236 [.slice A355 x354.length C356, .slice A359 x358.length C360] :: Ass.own 3 (Kd.int .i64) A359 C360 x358 :: os) 25 (by kernel_rfl) (by kernel_rfl) (by kernel_rfl) (by kernel_rfl) h437 (fun _ _ => rfl) ?_
                intro A810 C811 w hS
                have hC : Core B [] [Ro.sl (Kd.int .i64) (some ad434) C246 l244, Ro.sl (Kd.int .i64) A10 C11 l9] _ := ⟨_, _, hS⟩
                refine ⟨hC, ?_⟩
                refine ED.at' #[true, true, true, true, true, true, true, true, true, true, true, true, true, true, true, false, false, false, false, false, false, false, false] (by kernel_rfl) ?_
                refine ED.one 15 7 #[true, true, true, true, true, true, true, true, true, true, true, true, true, true, true, true, false, false, false, false, false, false, false] (by kernel_rfl) (by kernel_rfl) (by kernel_rfl) (EO.lit hS (Kd.int .i64) 3 66 1 #[(0, .int .i64 (mn (mx (l244.getD x362.toNat 0) 0) 4096))] [.int .i64 (mn (mx (l244.getD x362.toNat 0) 0) 4096)] l442 33 (by kernel_rfl) (by kernel_rfl) (by kernel_rfl) (fun _ => (by kernel_rfl)) (by rw [hl442]; rfl) (by kernel_rfl) (fun w G hr => (by rw [hl442]; exact ⟨[.int .i64 (mn (mx (l244.getD x362.toNat 0) 0) 4096)], [], rfl, rfl, rfl⟩)) ?_)
                intro g812 w hS
                have hC : Core B [] [Ro.sl (Kd.int .i64) (some ad434) C246 l244, Ro.sl (Kd.int .i64) A10 C11 l9] _ := ⟨_, _, hS⟩
                refine ⟨hC, ?_⟩
                refine ED.one 16 6 #[true, true, true, true, true, true, true, true, true, true, true, true, true, true, true, true, true, false, false, false, false, false, false] (by kernel_rfl) (by kernel_rfl) (by kernel_rfl) (EO.append hS 66 66 3 8 3 (Kd.int .i64) A359 C360 x358 rfl (some ⟨g812, 0, none⟩) 1 l442 (Rd.own 0 3 rfl) l444 hl444 (fun A813 C814 => Ass.own 3 (Kd.int .i64) (some ⟨g812, 0, none⟩) 1 l442 :: Ass.deep 94 96 kS96 A810 C811 l438 :: Ass.box 91 g236 [.slice A355 x354.length C356, .slice A359 x358.length C360] :: Ass.own 3 (Kd.int .i64) A813 C814 l444 :: os) 34 (by kernel_rfl) (by kernel_rfl) (by kernel_rfl) (by kernel_rfl) h443 (fun _ _ => rfl) ?_)
                intro A813 C814 w hS
                have hC : Core B [] [Ro.sl (Kd.int .i64) (some ad434) C246 l244, Ro.sl (Kd.int .i64) A10 C11 l9] _ := ⟨_, _, hS⟩
                refine ⟨hC, ?_⟩
                refine ED.quick hN hF hC [17, 18] [3, 12, 13, 14, 19, 25, 34, 36] 4 [(3, .pointer (some ⟨g236, 0, none⟩)), (12, .slice (some ad434) l244.length C246), (13, .int .i64 (l244.length : Int)), (14, .int .i64 x362), (19, .pointer (some ⟨g236, 0, none⟩)), (25, .slice A810 l438.length C811), (34, .slice A813 l444.length C814), (36, .pointer (some ⟨g236, 0, none⟩))] #[true, true, true, true, true, true, true, true, true, true, true, true, true, true, true, true, true, true, true, false, false, false, false] (by kernel_rfl) (by kernel_rfl) ?_
                refine ED.one 19 3 #[true, true, true, true, true, true, true, true, true, true, true, true, true, true, true, true, true, true, true, true, false, false, false] (by kernel_rfl) (by kernel_rfl) (by kernel_rfl) (EO.storeBox (os' := Ass.own 3 (Kd.int .i64) (some ⟨g812, 0, none⟩) 1 l442 :: Ass.deep 94 96 kS96 A810 C811 l438 :: Ass.box 91 g236 [.slice A810 l438.length C811, .slice A359 x358.length C360] :: Ass.own 3 (Kd.int .i64) A813 C814 l444 :: os) hS 2 rfl 89 0 (.slice A810 l438.length C811) [.slice A810 l438.length C811, .slice A359 x358.length C360] (by kernel_rfl) (by kernel_rfl) (by kernel_rfl) (by kernel_rfl) (by kernel_rfl) (by kernel_rfl) rfl rfl ?_)
                intro w hS
                have hC : Core B [] [Ro.sl (Kd.int .i64) (some ad434) C246 l244, Ro.sl (Kd.int .i64) A10 C11 l9] _ := ⟨_, _, hS⟩
                refine ⟨hC, ?_⟩
                refine ED.quick hN hF hC [20, 21] [3, 12, 13, 14, 34, 38] 1 [(3, .pointer (some ⟨g236, 0, none⟩)), (12, .slice (some ad434) l244.length C246), (13, .int .i64 (l244.length : Int)), (14, .int .i64 x362), (34, .slice A813 l444.length C814), (38, .pointer (some ⟨g236, 1, none⟩))] #[true, true, true, true, true, true, true, true, true, true, true, true, true, true, true, true, true, true, true, true, true, true, false] (by kernel_rfl) (by kernel_rfl) ?_
                refine ED.one 22 0 #[true, true, true, true, true, true, true, true, true, true, true, true, true, true, true, true, true, true, true, true, true, true, true] (by kernel_rfl) (by kernel_rfl) (by kernel_rfl) (EO.storeBox (os' := Ass.own 3 (Kd.int .i64) (some ⟨g812, 0, none⟩) 1 l442 :: Ass.deep 94 96 kS96 A810 C811 l438 :: Ass.box 91 g236 [.slice A810 l438.length C811, .slice A813 l444.length C814] :: Ass.own 3 (Kd.int .i64) A813 C814 l444 :: os) hS 2 rfl 66 1 (.slice A813 l444.length C814) [.slice A810 l438.length C811, .slice A813 l444.length C814] (by kernel_rfl) (by kernel_rfl) (by kernel_rfl) (by kernel_rfl) (by kernel_rfl) (by kernel_rfl) rfl rfl ?_)
                intro w hS
                have hC : Core B [] [Ro.sl (Kd.int .i64) (some ad434) C246 l244, Ro.sl (Kd.int .i64) A10 C11 l9] _ := ⟨_, _, hS⟩
                refine ⟨hC, ?_⟩
                refine ED.done (by kernel_rfl) ?_
                refine EQ.to ?_
                refine EQ.keep [3, 12, 13, 14] [(3, .pointer (some ⟨g236, 0, none⟩)), (12, .slice (some ad434) l244.length C246), (13, .int .i64 (l244.length : Int)), (14, .int .i64 x362)] (by kernel_rfl) ?_
                exact fun a ha => ⟨(some ⟨g812, 0, none⟩), 1, A810, C811, A813, C814, ha, (hS.re [3, 3, 3, 3] [] rfl (sub_cons 0 rfl (sub_cons 1 rfl (sub_tail (sub_tail (sub_self))))))⟩
              · refine EO.lit hS (Kd.int .i64) 3 66 1 #[(0, .int .i64 (mn (mx (l244.getD x362.toNat 0) 0) 4096))] [.int .i64 (mn (mx (l244.getD x362.toNat 0) 0) 4096)] l442 33 (by kernel_rfl) (by kernel_rfl) (by kernel_rfl) (fun _ => (by kernel_rfl)) (by rw [hl442]; rfl) (by kernel_rfl) (fun w G hr => (by rw [hl442]; exact ⟨[.int .i64 (mn (mx (l244.getD x362.toNat 0) 0) 4096)], [], rfl, rfl, rfl⟩)) ?_
                intro g815 w hS
                have hC : Core B [] [Ro.sl (Kd.int .i64) (some ad434) C246 l244, Ro.sl (Kd.int .i64) A10 C11 l9] _ := ⟨_, _, hS⟩
                refine ⟨hC, ?_⟩
                refine ED.at' #[true, true, true, true, true, true, true, false, true, true, true, true, true, true, true, true, false, false, false, false, false, false, false] (by kernel_rfl) ?_
                have hS := St.as (os' := Ass.deep 94 96 kS96 (some ⟨g808, 0, none⟩) 1 ([([] : List S96)] : List (List S96)) :: Ass.own 3 (Kd.int .i64) (some ⟨g815, 0, none⟩) 1 l442 :: Ass.box 91 g236 [.slice A355 x354.length C356, .slice A359 x358.length C360] :: Ass.deep 94 96 kS96 A355 C356 x354 :: Ass.own 3 (Kd.int .i64) A359 C360 x358 :: os) (St.fold (B := B) (os := _) (rs := _) (et := 94) (et' := 96) (K := kS96) (hs := [(none, ([] : List S96).length, 0)]) (xs := ([([] : List S96)] : List (List S96))) ⟨rfl, trivial⟩ (St.re hS [1, 2] [] rfl sub_self)) rfl
                refine ED.one 7 7 #[true, true, true, true, true, true, true, true, true, true, true, true, true, true, true, true, false, false, false, false, false, false, false] (by kernel_rfl) (by kernel_rfl) (by kernel_rfl) (EO.appendDeep hS 89 89 24 3 0 kS96 A355 C356 x354 rfl (some ⟨g808, 0, none⟩) 1 ([([] : List S96)] : List (List S96)) rfl l438 hl438 (fun A816 C817 => Ass.deep 94 96 kS96 A816 C817 l438 :: Ass.own 3 (Kd.int .i64) (some ⟨g815, 0, none⟩) 1 l442 :: Ass.box 91 g236 [.slice A355 x354.length C356, .slice A359 x358.length C360] :: Ass.own 3 (Kd.int .i64) A359 C360 x358 :: os) 25 (by kernel_rfl) (by kernel_rfl) (by kernel_rfl) (by kernel_rfl) h437 (fun _ _ => rfl) ?_)
                intro A816 C817 w hS
                have hC : Core B [] [Ro.sl (Kd.int .i64) (some ad434) C246 l244, Ro.sl (Kd.int .i64) A10 C11 l9] _ := ⟨_, _, hS⟩
                refine ⟨hC, ?_⟩
                refine ED.one 16 6 #[true, true, true, true, true, true, true, true, true, true, true, true, true, true, true, true, true, false, false, false, false, false, false] (by kernel_rfl) (by kernel_rfl) (by kernel_rfl) (EO.append hS 66 66 3 8 3 (Kd.int .i64) A359 C360 x358 rfl (some ⟨g815, 0, none⟩) 1 l442 (Rd.own 1 3 rfl) l444 hl444 (fun A818 C819 => Ass.deep 94 96 kS96 A816 C817 l438 :: Ass.own 3 (Kd.int .i64) (some ⟨g815, 0, none⟩) 1 l442 :: Ass.box 91 g236 [.slice A355 x354.length C356, .slice A359 x358.length C360] :: Ass.own 3 (Kd.int .i64) A818 C819 l444 :: os) 34 (by kernel_rfl) (by kernel_rfl) (by kernel_rfl) (by kernel_rfl) h443 (fun _ _ => rfl) ?_)
                intro A818 C819 w hS
                have hC : Core B [] [Ro.sl (Kd.int .i64) (some ad434) C246 l244, Ro.sl (Kd.int .i64) A10 C11 l9] _ := ⟨_, _, hS⟩
                refine ⟨hC, ?_⟩
                refine ED.quick hN hF hC [17, 18] [3, 12, 13, 14, 19, 25, 34, 36] 4 [(3, .pointer (some ⟨g236, 0, none⟩)), (12, .slice (some ad434) l244.length C246), (13, .int .i64 (l244.length : Int)), (14, .int .i64 x362), (19, .pointer (some ⟨g236, 0, none⟩)), (25, .slice A816 l438.length C817), (34, .slice A818 l444.length C819), (36, .pointer (some ⟨g236, 0, none⟩))] #[true, true, true, true, true, true, true, true, true, true, true, true, true, true, true, true, true, true, true, false, false, false, false] (by kernel_rfl) (by kernel_rfl) ?_
                refine ED.one 19 3 #[true, true, true, true, true, true, true, true, true, true, true, true, true, true, true, true, true, true, true, true, false, false, false] (by kernel_rfl) (by kernel_rfl) (by kernel_rfl) (EO.storeBox (os' := Ass.deep 94 96 kS96 A816 C817 l438 :: Ass.own 3 (Kd.int .i64) (some ⟨g815, 0, none⟩) 1 l442 :: Ass.box 91 g236 [.slice A816 l438.length C817, .slice A359 x358.length C360] :: Ass.own 3 (Kd.int .i64) A818 C819 l444 :: os) hS 2 rfl 89 0 (.slice A816 l438.length C817) [.slice A816 l438.length C817, .slice A359 x358.length C360] (by kernel_rfl) (by kernel_rfl) (by kernel_rfl) (by kernel_rfl) (by kernel_rfl) (by kernel_rfl) rfl rfl ?_)
                intro w hS
                have hC : Core B [] [Ro.sl (Kd.int .i64) (some ad434) C246 l244, Ro.sl (Kd.int .i64) A10 C11 l9] _ := ⟨_, _, hS⟩
                refine ⟨hC, ?_⟩
                refine ED.quick hN hF hC [20, 21] [3, 12, 13, 14, 34, 38] 1 [(3, .pointer (some ⟨g236, 0, none⟩)), (12, .slice (some ad434) l244.length C246), (13, .int .i64 (l244.length : Int)), (14, .int .i64 x362), (34, .slice A818 l444.length C819), (38, .pointer (some ⟨g236, 1, none⟩))] #[true, true, true, true, true, true, true, true, true, true, true, true, true, true, true, true, true, true, true, true, true, true, false] (by kernel_rfl) (by kernel_rfl) ?_
                refine ED.one 22 0 #[true, true, true, true, true, true, true, true, true, true, true, true, true, true, true, true, true, true, true, true, true, true, true] (by kernel_rfl) (by kernel_rfl) (by kernel_rfl) (EO.storeBox (os' := Ass.deep 94 96 kS96 A816 C817 l438 :: Ass.own 3 (Kd.int .i64) (some ⟨g815, 0, none⟩) 1 l442 :: Ass.box 91 g236 [.slice A816 l438.length C817, .slice A818 l444.length C819] :: Ass.own 3 (Kd.int .i64) A818 C819 l444 :: os) hS 2 rfl 66 1 (.slice A818 l444.length C819) [.slice A816 l438.length C817, .slice A818 l444.length C819] (by kernel_rfl) (by kernel_rfl) (by kernel_rfl) (by kernel_rfl) (by kernel_rfl) (by kernel_rfl) rfl rfl ?_)
                intro w hS
                have hC : Core B [] [Ro.sl (Kd.int .i64) (some ad434) C246 l244, Ro.sl (Kd.int .i64) A10 C11 l9] _ := ⟨_, _, hS⟩
                refine ⟨hC, ?_⟩
                refine ED.done (by kernel_rfl) ?_
                refine EQ.to ?_
                refine EQ.keep [3, 12, 13, 14] [(3, .pointer (some ⟨g236, 0, none⟩)), (12, .slice (some ad434) l244.length C246), (13, .int .i64 (l244.length : Int)), (14, .int .i64 x362)] (by kernel_rfl) ?_
                exact fun a ha => ⟨(some ⟨g815, 0, none⟩), 1, A816, C817, A818, C819, ha, (hS.re [3, 3, 2, 3] [] rfl (sub_cons 0 rfl (sub_cons 1 rfl (sub_tail (sub_tail (sub_self))))))⟩
            · refine EO.lit hS (Kd.int .i64) 3 66 1 #[(0, .int .i64 (mn (mx (l244.getD x362.toNat 0) 0) 4096))] [.int .i64 (mn (mx (l244.getD x362.toNat 0) 0) 4096)] l442 33 (by kernel_rfl) (by kernel_rfl) (by kernel_rfl) (fun _ => (by kernel_rfl)) (by rw [hl442]; rfl) (by kernel_rfl) (fun w G hr => (by rw [hl442]; exact ⟨[.int .i64 (mn (mx (l244.getD x362.toNat 0) 0) 4096)], [], rfl, rfl, rfl⟩)) ?_
              intro g820 w hS
              have hC : Core B [] [Ro.sl (Kd.int .i64) (some ad434) C246 l244, Ro.sl (Kd.int .i64) A10 C11 l9] _ := ⟨_, _, hS⟩
              refine ⟨hC, ?_⟩
              refine ED.at' #[true, true, true, true, true, false, true, false, true, true, true, true, true, true, true, true, false, false, false, false, false, false, false] (by kernel_rfl) ?_
              refine ED.one 5 8 #[true, true, true, true, true, true, true, false, true, true, true, true, true, true, true, true, false, false, false, false, false, false, false] (by kernel_rfl) (by kernel_rfl) (by kernel_rfl) (EO.Y (YO.loadBox hS 3 rfl 89 0 1 (.slice A355 x354.length C356) 23 (by kernel_rfl) (by kernel_rfl) (by kernel_rfl) (by kernel_rfl)) ?_)
              have hC : Core B [] [Ro.sl (Kd.int .i64) (some ad434) C246 l244, Ro.sl (Kd.int .i64) A10 C11 l9] _ := ⟨_, _, hS⟩
              refine ⟨hC, ?_⟩
              have hS := St.as (os' := Ass.deep 94 96 kS96 (some ⟨g808, 0, none⟩) 1 ([([] : List S96)] : List (List S96)) :: Ass.own 3 (Kd.int .i64) (some ⟨g820, 0, none⟩) 1 l442 :: Ass.box 91 g236 [.slice A355 x354.length C356, .slice A359 x358.length C360] :: Ass.deep 94 96 kS96 A355 C356 x354 :: Ass.own 3 (Kd.int .i64) A359 C360 x358 :: os) (St.fold (B := B) (os := _) (rs := _) (et := 94) (et' := 96) (K := kS96) (hs := [(none, ([] : List S96).length, 0)]) (xs := ([([] : List S96)] : List (List S96))) ⟨rfl, trivial⟩ (St.re hS [1, 2] [] rfl sub_self)) rfl
              refine ED.one 7 7 #[true, true, true, true, true, true, true, true, true, true, true, true, true, true, true, true, false, false, false, false, false, false, false] (by kernel_rfl) (by kernel_rfl) (by kernel_rfl) (EO.appendDeep hS 89 89 24 3 0 kS96 A355 C356 x354 rfl (some ⟨g808, 0, none⟩) 1 ([([] : List S96)] : List (List S96)) rfl l438 hl438 (fun A821 C822 => Ass.deep 94 96 kS96 A821 C822 l438 :: Ass.own 3 (Kd.int .i64) (some ⟨g820, 0, none⟩) 1 l442 :: Ass.box 91 g236 [.slice A355 x354.length C356, .slice A359 x358.length C360] :: Ass.own 3 (Kd.int .i64) A359 C360 x358 :: os) 25 (by kernel_rfl) (by kernel_rfl) (by kernel_rfl) (by kernel_rfl) h437 (fun _ _ => rfl) ?_)
              intro A821 C822 w hS
              have hC : Core B [] [Ro.sl (Kd.int .i64) (some ad434) C246 l244, Ro.sl (Kd.int .i64) A10 C11 l9] _ := ⟨_, _, hS⟩
              refine ⟨hC, ?_⟩
              refine ED.one 16 6 #[true, true, true, true, true, true, true, true, true, true, true, true, true, true, true, true, true, false, false, false, false, false, false] (by kernel_rfl) (by kernel_rfl) (by kernel_rfl) (EO.append hS 66 66 3 8 3 (Kd.int .i64) A359 C360 x358 rfl (some ⟨g820, 0, none⟩) 1 l442 (Rd.own 1 3 rfl) l444 hl444 (fun A823 C824 => Ass.deep 94 96 kS96 A821 C822 l438 :: Ass.own 3 (Kd.int .i64) (some ⟨g820, 0, none⟩) 1 l442 :: Ass.box 91 g236 [.slice A355 x354.length C356, .slice A359 x358.length C360] :: Ass.own 3 (Kd.int .i64) A823 C824 l444 :: os) 34 (by kernel_rfl) (by kernel_rfl) (by kernel_rfl) (by kernel_rfl) h443 (fun _ _ => rfl) ?_)
              intro A823 C824 w hS
              have hC : Core B [] [Ro.sl (Kd.int .i64) (some ad434) C246 l244, Ro.sl (Kd.int .i64) A10 C11 l9] _ := ⟨_, _, hS⟩
              refine ⟨hC, ?_⟩
              refine ED.quick hN hF hC [17, 18] [3, 12, 13, 14, 19, 25, 34, 36] 4 [(3, .pointer (some ⟨g236, 0, none⟩)), (12, .slice (some ad434) l244.length C246), (13, .int .i64 (l244.length : Int)), (14, .int .i64 x362), (19, .pointer (some ⟨g236, 0, none⟩)), (25, .slice A821 l438.length C822), (34, .slice A823 l444.length C824), (36, .pointer (some ⟨g236, 0, none⟩))] #[true, true, true, true, true, true, true, true, true, true, true, true, true, true, true, true, true, true, true, false, false, false, false] (by kernel_rfl) (by kernel_rfl) ?_
              refine ED.one 19 3 #[true, true, true, true, true, true, true, true, true, true, true, true, true, true, true, true, true, true, true, true, false, false, false] (by kernel_rfl) (by kernel_rfl) (by kernel_rfl) (EO.storeBox (os' := Ass.deep 94 96 kS96 A821 C822 l438 :: Ass.own 3 (Kd.int .i64) (some ⟨g820, 0, none⟩) 1 l442 :: Ass.box 91 g236 [.slice A821 l438.length C822, .slice A359 x358.length C360] :: Ass.own 3 (Kd.int .i64) A823 C824 l444 :: os) hS 2 rfl 89 0 (.slice A821 l438.length C822) [.slice A821 l438.length C822, .slice A359 x358.length C360] (by kernel_rfl) (by kernel_rfl) (by kernel_rfl) (by kernel_rfl) (by kernel_rfl) (by kernel_rfl) rfl rfl ?_)
              intro w hS
              have hC : Core B [] [Ro.sl (Kd.int .i64) (some ad434) C246 l244, Ro.sl (Kd.int .i64) A10 C11 l9] _ := ⟨_, _, hS⟩
              refine ⟨hC, ?_⟩
              refine ED.quick hN hF hC [20, 21] [3, 12, 13, 14, 34, 38] 1 [(3, .pointer (some ⟨g236, 0, none⟩)), (12, .slice (some ad434) l244.length C246), (13, .int .i64 (l244.length : Int)), (14, .int .i64 x362), (34, .slice A823 l444.length C824), (38, .pointer (some ⟨g236, 1, none⟩))] #[true, true, true, true, true, true, true, true, true, true, true, true, true, true, true, true, true, true, true, true, true, true, false] (by kernel_rfl) (by kernel_rfl) ?_
              refine ED.one 22 0 #[true, true, true, true, true, true, true, true, true, true, true, true, true, true, true, true, true, true, true, true, true, true, true] (by kernel_rfl) (by kernel_rfl) (by kernel_rfl) (EO.storeBox (os' := Ass.deep 94 96 kS96 A821 C822 l438 :: Ass.own 3 (Kd.int .i64) (some ⟨g820, 0, none⟩) 1 l442 :: Ass.box 91 g236 [.slice A821 l438.length C822, .slice A823 l444.length C824] :: Ass.own 3 (Kd.int .i64) A823 C824 l444 :: os) hS 2 rfl 66 1 (.slice A823 l444.length C824) [.slice A821 l438.length C822, .slice A823 l444.length C824] (by kernel_rfl) (by kernel_rfl) (by kernel_rfl) (by kernel_rfl) (by kernel_rfl) (by kernel_rfl) rfl rfl ?_)
              intro w hS
              have hC : Core B [] [Ro.sl (Kd.int .i64) (some ad434) C246 l244, Ro.sl (Kd.int .i64) A10 C11 l9] _ := ⟨_, _, hS⟩
              refine ⟨hC, ?_⟩
              refine ED.done (by kernel_rfl) ?_
              refine EQ.to ?_
              refine EQ.keep [3, 12, 13, 14] [(3, .pointer (some ⟨g236, 0, none⟩)), (12, .slice (some ad434) l244.length C246), (13, .int .i64 (l244.length : Int)), (14, .int .i64 x362)] (by kernel_rfl) ?_
              exact fun a ha => ⟨(some ⟨g820, 0, none⟩), 1, A821, C822, A823, C824, ha, (hS.re [3, 3, 2, 3] [] rfl (sub_cons 0 rfl (sub_cons 1 rfl (sub_tail (sub_tail (sub_self))))))⟩
          · refine EO.lit hS (Kd.int .i64) 3 66 1 #[(0, .int .i64 (mn (mx (l244.getD x362.toNat 0) 0) 4096))] [.int .i64 (mn (mx (l244.getD x362.toNat 0) 0) 4096)] l442 33 (by kernel_rfl) (by kernel_rfl) (by kernel_rfl) (fun _ => (by kernel_rfl)) (by rw [hl442]; rfl) (by kernel_rfl) (fun w G hr => (by rw [hl442]; exact ⟨[.int .i64 (mn (mx (l244.getD x362.toNat 0) 0) 4096)], [], rfl, rfl, rfl⟩)) ?_
            intro g825 w hS
            have hC : Core B [] [Ro.sl (Kd.int .i64) (some ad434) C246 l244, Ro.sl (Kd.int .i64) A10 C11 l9] _ := ⟨_, _, hS⟩
            refine ⟨hC, ?_⟩
            refine ED.at' #[true, true, true, true, true, false, false, false, true, true, true, true, true, true, true, true, false, false, false, false, false, false, false] (by kernel_rfl) ?_
            refine ED.two 5 6 9 (by kernel_rfl) (by kernel_rfl) ?_ ?_
            · refine EO.Y (YO.loadBox hS 1 rfl 89 0 1 (.slice A355 x354.length C356) 23 (by kernel_rfl) (by kernel_rfl) (by kernel_rfl) (by kernel_rfl)) ?_
              have hC : Core B [] [Ro.sl (Kd.int .i64) (some ad434) C246 l244, Ro.sl (Kd.int .i64) A10 C11 l9] _ := ⟨_, _, hS⟩
              refine ⟨hC, ?_⟩
              refine ED.at' #[true, true, true, true, true, true, false, false, true, true, true, true, true, true, true, true, false, false, false, false, false, false, false] (by kernel_rfl) ?_
              refine ED.one 6 8 #[true, true, true, true, true, true, true, false, true, true, true, true, true, true, true, true, false, false, false, false, false, false, false] (by kernel_rfl) (by kernel_rfl) (by kernel_rfl) (EO.lit (xs := ([(none, ([] : List S96).length, 0)] : List Hdr)) hS Kd.hdr 94 89 1 #[(0, .slice none ([] : List S96).length 0)] [.slice none ([] : List S96).length 0] 24 (by kernel_rfl) (by kernel_rfl) (by kernel_rfl) (fun _ => (by kernel_rfl)) rfl (by kernel_rfl) (fun w G hr => ⟨[.slice none ([] : List S96).length 0], [], rfl, rfl, rfl⟩) ?_)
              intro g826 w hS
              have hS := St.nilO hS 96 kS96
              have hC : Core B [] [Ro.sl (Kd.int .i64) (some ad434) C246 l244, Ro.sl (Kd.int .i64) A10 C11 l9] _ := ⟨_, _, hS⟩
              refine ⟨hC, ?_⟩
              have hS := St.as (os' := Ass.deep 94 96 kS96 (some ⟨g826, 0, none⟩) 1 ([([] : List S96)] : List (List S96)) :: Ass.own 3 (Kd.int .i64) (some ⟨g825, 0, none⟩) 1 l442 :: Ass.box 91 g236 [.slice A355 x354.length C356, .slice A359 x358.length C360] :: Ass.deep 94 96 kS96 A355 C356 x354 :: Ass.own 3 (Kd.int .i64) A359 C360 x358 :: os) (St.fold (B := B) (os := _) (rs := _) (et := 94) (et' := 96) (K := kS96) (hs := [(none, ([] : List S96).length, 0)]) (xs := ([([] : List S96)] : List (List S96))) ⟨rfl, trivial⟩ (St.re hS [0, 1] [] rfl sub_self)) rfl
              refine ED.one 7 7 #[true, true, true, true, true, true, true, true, true, true, true, true, true, true, true, true, false, false, false, false, false, false, false] (by kernel_rfl) (by kernel_rfl) (by kernel_rfl) (EO.appendDeep hS 89 89 24 3 0 kS96 A355 C356 x354 rfl (some ⟨g826, 0, none⟩) 1 ([([] : List S96)] : List (List S96)) rfl l438 hl438 (fun A828 C829 => Ass.deep 94 96 kS96 A828 C829 l438 :: Ass.own 3 (Kd.int .i64) (some ⟨g825, 0, none⟩) 1 l442 :: Ass.box 91 g236 [.slice A355 x354.length C356, .slice A359 x358.length C360] :: Ass.own 3 (Kd.int .i64) A359 C360 x358 :: os) 25 (by kernel_rfl) (by kernel_rfl) (by kernel_rfl) (by kernel_rfl) h437 (fun _ _ => rfl) ?_)
              intro A828 C829 w hS
              have hC : Core B [] [Ro.sl (Kd.int .i64) (some ad434) C246 l244, Ro.sl (Kd.int .i64) A10 C11 l9] _ := ⟨_, _, hS⟩
              refine ⟨hC, ?_⟩
              refine ED.one 16 6 #[true, true, true, true, true, true, true, true, true, true, true, true, true, true, true, true, true, false, false, false, false, false, false] (by kernel_rfl) (by kernel_rfl) (by kernel_rfl) (EO.append hS 66 66 3 8 3 (Kd.int .i64) A359 C360 x358 rfl (some ⟨g825, 0, none⟩) 1 l442 (Rd.own 1 3 rfl) l444 hl444 (fun A830 C831 => Ass.deep 94 96 kS96 A828 C829 l438 :: Ass.own 3 (Kd.int .i64) (some ⟨g825, 0, none⟩) 1 l442 :: Ass.box 91 g236 [.slice A355 x354.length C356, .slice A359 x358.length C360] :: Ass.own 3 (Kd.int .i64) A830 C831 l444 :: os) 34 (by kernel_rfl) (by kernel_rfl) (by kernel_rfl) (by kernel_rfl) h443 (fun _ _ => rfl) ?_)
              intro A830 C831 w hS
              have hC : Core B [] [Ro.sl (Kd.int .i64) (some ad434) C246 l244, Ro.sl (Kd.int .i64) A10 C11 l9] _ := ⟨_, _, hS⟩
              refine ⟨hC, ?_⟩
              refine ED.quick hN hF hC [17, 18] [3, 12, 13, 14, 19, 25, 34, 36] 4 [(3, .pointer (some ⟨g236, 0, none⟩)), (12, .slice (some ad434) l244.length C246), (13, .int .i64 (l244.length : Int)), (14, .int .i64 x362), (19, .pointer (some ⟨g236, 0, none⟩)), (25, .slice A828 l438.length C829), (34, .slice A830 l444.length C831), (36, .pointer (some ⟨g236, 0, none⟩))] #[true, true, true, true, true, true, true, true, true, true, true, true, true, true, true, true, true, true, true, false, false, false, false] (by kernel_rfl) (by kernel_rfl) ?_
              refine ED.one 19 3 #[true, true, true, true, true, true, true, true, true, true, true, true, true, true, true, true, true, true, true, true, false, false, false] (by kernel_rfl) (by kernel_rfl) (by kernel_rfl) (EO.storeBox (os' := Ass.deep 94 96 kS96 A828 C829 l438 :: Ass.own 3 (Kd.int .i64) (some ⟨g825, 0, none⟩) 1 l442 :: Ass.box 91 g236 [.slice A828 l438.length C829, .slice A359 x358.length C360] :: Ass.own 3 (Kd.int .i64) A830 C831 l444 :: os) hS 2 rfl 89 0 (.slice A828 l438.length C829) [.slice A828 l438.length C829, .slice A359 x358.length C360] (by kernel_rfl) (by kernel_rfl) (by kernel_rfl) (by kernel_rfl) (by kernel_rfl) (by kernel_rfl) rfl rfl ?_)
              intro w hS
              have hC : Core B [] [Ro.sl (Kd.int .i64) (some ad434) C246 l244, Ro.sl (Kd.int .i64) A10 C11 l9] _ := ⟨_, _, hS⟩
              refine ⟨hC, ?_⟩
              refine ED.quick hN hF hC [20, 21] [3, 12, 13, 14, 34, 38] 1 [(3, .pointer (some ⟨g236, 0, none⟩)), (12, .slice (some ad434) l244.length C246), (13, .int .i64 (l244.length : Int)), (14, .int .i64 x362), (34, .slice A830 l444.length C831), (38, .pointer (some ⟨g236, 1, none⟩))] #[true, true, true, true, true, true, true, true, true, true, true, true, true, true, true, true, true, true, true, true, true, true, false] (by kernel_rfl) (by kernel_rfl) ?_
              refine ED.one 22 0 #[true, true, true, true, true, true, true, true, true, true, true, true, true, true, true, true, true, true, true, true, true, true, true] (by kernel_rfl) (by kernel_rfl) (by kernel_rfl) (EO.storeBox (os' := Ass.deep 94 96 kS96 A828 C829 l438 :: Ass.own 3 (Kd.int .i64) (some ⟨g825, 0, none⟩) 1 l442 :: Ass.box 91 g236 [.slice A828 l438.length C829, .slice A830 l444.length C831] :: Ass.own 3 (Kd.int .i64) A830 C831 l444 :: os) hS 2 rfl 66 1 (.slice A830 l444.length C831) [.slice A828 l438.length C829, .slice A830 l444.length C831] (by kernel_rfl) (by kernel_rfl) (by kernel_rfl) (by kernel_rfl) (by kernel_rfl) (by kernel_rfl) rfl rfl ?_)
              intro w hS
              have hC : Core B [] [Ro.sl (Kd.int .i64) (some ad434) C246 l244, Ro.sl (Kd.int .i64) A10 C11 l9] _ := ⟨_, _, hS⟩
              refine ⟨hC, ?_⟩
              refine ED.done (by kernel_rfl) ?_
              refine EQ.to ?_
              refine EQ.keep [3, 12, 13, 14] [(3, .pointer (some ⟨g236, 0, none⟩)), (12, .slice (some ad434) l244.length C246), (13, .int .i64 (l244.length : Int)), (14, .int .i64 x362)] (by kernel_rfl) ?_
              exact fun a ha => ⟨(some ⟨g825, 0, none⟩), 1, A828, C829, A830, C831, ha, (hS.re [3, 3, 2, 3] [] rfl (sub_cons 0 rfl (sub_cons 1 rfl (sub_tail (sub_tail (sub_self))))))⟩
            · refine EO.lit (xs := ([(none, ([] : List S96).length, 0)] : List Hdr)) hS Kd.hdr 94 89 1 #[(0, .slice none ([] : List S96).length 0)] [.slice none ([] : List S96).length 0] 24 (by kernel_rfl) (by kernel_rfl) (by kernel_rfl) (fun _ => (by kernel_rfl)) rfl (by kernel_rfl) (fun w G hr => ⟨[.slice none ([] : List S96).length 0], [], rfl, rfl, rfl⟩) ?_
              intro g832 w hS
              have hS := St.nilO hS 96 kS96
              have hC : Core B [] [Ro.sl (Kd.int .i64) (some ad434) C246 l244, Ro.sl (Kd.int .i64) A10 C11 l9] _ := ⟨_, _, hS⟩
              refine ⟨hC, ?_⟩
              refine ED.at' #[true, true, true, true, true, false, true, false, true, true, true, true, true, true, true, true, false, false, false, false, false, false, false] (by kernel_rfl) ?_
              refine ED.one 5 8 #[true, true, true, true, true, true, true, false, true, true, true, true, true, true, true, true, false, false, false, false, false, false, false] (by kernel_rfl) (by kernel_rfl) (by kernel_rfl) (EO.Y (YO.loadBox hS 3 rfl 89 0 1 (.slice A355 x354.length C356) 23 (by kernel_rfl) (by kernel_rfl) (by kernel_rfl) (by kernel_rfl)) ?_)
              have hC : Core B [] [Ro.sl (Kd.int .i64) (some ad434) C246 l244, Ro.sl (Kd.int .i64) A10 C11 l9] _ := ⟨_, _, hS⟩
              refine ⟨hC, ?_⟩
              have hS := St.as (os' := Ass.deep 94 96 kS96 (some ⟨g832, 0, none⟩) 1 ([([] : List S96)] : List (List S96)) :: Ass.own 3 (Kd.int .i64) (some ⟨g825, 0, none⟩) 1 l442 :: Ass.box 91 g236 [.slice A355 x354.length C356, .slice A359 x358.length C360] :: Ass.deep 94 96 kS96 A355 C356 x354 :: Ass.own 3 (Kd.int .i64) A359 C360 x358 :: os) (St.fold (B := B) (os := _) (rs := _) (et := 94) (et' := 96) (K := kS96) (hs := [(none, ([] : List S96).length, 0)]) (xs := ([([] : List S96)] : List (List S96))) ⟨rfl, trivial⟩ (St.re hS [0, 1] [] rfl sub_self)) rfl
              refine ED.one 7 7 #[true, true, true, true, true, true, true, true, true, true, true, true, true, true, true, true, false, false, false, false, false, false, false] (by kernel_rfl) (by kernel_rfl) (by kernel_rfl) (EO.appendDeep hS 89 89 24 3 0 kS96 A355 C356 x354 rfl (some ⟨g832, 0, none⟩) 1 ([([] : List S96)] : List (List S96)) rfl l438 hl438 (fun A834 C835 => Ass.deep 94 96 kS96 A834 C835 l438 :: Ass.own 3 (Kd.int .i64) (some ⟨g825, 0, none⟩) 1 l442 :: Ass.box 91 g236 [.slice A355 x354.length C356, .slice A359 x358.length C360] :: Ass.own 3 (Kd.int .i64) A359 C360 x358 :: os) 25 (by kernel_rfl) (by kernel_rfl) (by kernel_rfl) (by kernel_rfl) h437 (fun _ _ => rfl) ?_)
              intro A834 C835 w hS
              have hC : Core B [] [Ro.sl (Kd.int .i64) (some ad434) C246 l244, Ro.sl (Kd.int .i64) A10 C11 l9] _ := ⟨_, _, hS⟩
              refine ⟨hC, ?_⟩
              refine ED.one 16 6 #[true, true, true, true, true, true, true, true, true, true, true, true, true, true, true, true, true, false, false, false, false, false, false] (by kernel_rfl) (by kernel_rfl) (by kernel_rfl) (EO.append hS 66 66 3 8 3 (Kd.int .i64) A359 C360 x358 rfl (some ⟨g825, 0, none⟩) 1 l442 (Rd.own 1 3 rfl) l444 hl444 (fun A836 C837 => Ass.deep 94 96 kS96 A834 C835 l438 :: Ass.own 3 (Kd.int .i64) (some ⟨g825, 0, none⟩) 1 l442 :: Ass.box 91 g236 [.slice A355 x354.length C356, .slice A359 x358.length C360] :: Ass.own 3 (Kd.int .i64) A836 C837 l444 :: os) 34 (by kernel_rfl) (by kernel_rfl) (by kernel_rfl) (by kernel_rfl) h443 (fun _ _ => rfl) ?_)
              intro A836 C837 w hS
              have hC : Core B [] [Ro.sl (Kd.int .i64) (some ad434) C246 l244, Ro.sl (Kd.int .i64) A10 C11 l9] _ := ⟨_, _, hS⟩
              refine ⟨hC, ?_⟩
              refine ED.quick hN hF hC [17, 18] [3, 12, 13, 14, 19, 25, 34, 36] 4 [(3, .pointer (some ⟨g236, 0, none⟩)), (12, .slice (some ad434) l244.length C246), (13, .int .i64 (l244.length : Int)), (14, .int .i64 x362), (19, .pointer (some ⟨g236, 0, none⟩)), (25, .slice A834 l438.length C835), (34, .slice A836 l444.length C837), (36, .pointer (some ⟨g236, 0, none⟩))] #[true, true, true, true, true, true, true, true, true, true, true, true, true, true, true, true, true, true, true, false, false, false, false] (by kernel_rfl) (by kernel_rfl) ?_
              refine ED.one 19 3 #[true, true, true, true, true, true, true, true, true, true, true, true, true, true, true, true, true, true, true, true, false, false, false] (by kernel_rfl) (by kernel_rfl) (by kernel_rfl) (EO.storeBox (os' := Ass.deep 94 96 kS96 A834 C835 l438 :: Ass.own 3 (Kd.int .i64) (some ⟨g825, 0, none⟩) 1 l442 :: Ass.box 91 g236 [.slice A834 l438.length C835, .slice A359 x358.length C360] :: Ass.own 3 (Kd.int .i64) A836 C837 l444 :: os) hS 2 rfl 89 0 (.slice A834 l438.length C835) [.slice A834 l438.length C835, .slice A359 x358.length C360] (by kernel_rfl) (by kernel_rfl) (by kernel_rfl) (by kernel_rfl) (by kernel_rfl) (by kernel_rfl) rfl rfl ?_)
              intro w hS
              have hC : Core B [] [Ro.sl (Kd.int .i64) (some ad434) C246 l244, Ro.sl (Kd.int .i64) A10 C11 l9] _ := ⟨_, _, hS⟩
              refine ⟨hC, ?_⟩
              refine ED.quick hN hF hC [20, 21] [3, 12, 13, 14, 34, 38] 1 [(3, .pointer (some ⟨g236, 0, none⟩)), (12, .slice (some ad434) l244.length C246), (13, .int .i64 (l244.length : Int)), (14, .int .i64 x362), (34, .slice A836 l444.length C837), (38, .pointer (some ⟨g236, 1, none⟩))] #[true, true, true, true, true, true, true, true, true, true, true, true, true, true, true, true, true, true, true, true, true, true, false] (by kernel_rfl) (by kernel_rfl) ?_
              refine ED.one 22 0 #[true, true, true, true, true, true, true, true, true, true, true, true, true, true, true, true, true, true, true, true, true, true, true] (by kernel_rfl) (by kernel_rfl) (by kernel_rfl) (EO.storeBox (os' := Ass.deep 94 96 kS96 A834 C835 l438 :: Ass.own 3 (Kd.int .i64) (some ⟨g825, 0, none⟩) 1 l442 :: Ass.box 91 g236 [.slice A834 l438.length C835, .slice A836 l444.length C837] :: Ass.own 3 (Kd.int .i64) A836 C837 l444 :: os) hS 2 rfl 66 1 (.slice A836 l444.length C837) [.slice A834 l438.length C835, .slice A836 l444.length C837] (by kernel_rfl) (by kernel_rfl) (by kernel_rfl) (by kernel_rfl) (by kernel_rfl) (by kernel_rfl) rfl rfl ?_)
              intro w hS
              have hC : Core B [] [Ro.sl (Kd.int .i64) (some ad434) C246 l244, Ro.sl (Kd.int .i64) A10 C11 l9] _ := ⟨_, _, hS⟩
              refine ⟨hC, ?_⟩
              refine ED.done (by kernel_rfl) ?_
              refine EQ.to ?_
              refine EQ.keep [3, 12, 13, 14] [(3, .pointer (some ⟨g236, 0, none⟩)), (12, .slice (some ad434) l244.length C246), (13, .int .i64 (l244.length : Int)), (14, .int .i64 x362)] (by kernel_rfl) ?_
              exact fun a ha => ⟨(some ⟨g825, 0, none⟩), 1, A834, C835, A836, C837, ha, (hS.re [3, 3, 2, 3] [] rfl (sub_cons 0 rfl (sub_cons 1 rfl (sub_tail (sub_tail (sub_self))))))⟩
        · refine EO.lit hS (Kd.int .i64) 3 66 1 #[(0, .int .i64 (mn (mx (l244.getD x362.toNat 0) 0) 4096))] [.int .i64 (mn (mx (l244.getD x362.toNat 0) 0) 4096)] l442 33 (by kernel_rfl) (by kernel_rfl) (by kernel_rfl) (fun _ => (by kernel_rfl)) (by rw [hl442]; rfl) (by kernel_rfl) (fun w G hr => (by rw [hl442]; exact ⟨[.int .i64 (mn (mx (l244.getD x362.toNat 0) 0) 4096)], [], rfl, rfl, rfl⟩)) ?_
          intro g838 w hS
          have hC : Core B [] [Ro.sl (Kd.int .i64) (some ad434) C246 l244, Ro.sl (Kd.int .i64) A10 C11 l9] _ := ⟨_, _, hS⟩
          refine ⟨hC, ?_⟩
          refine ED.at' #[true, true, true, true, true, false, false, false, true, true, true, false, true, true, true, true, false, false, false, false, false, false, false] (by kernel_rfl) ?_
          refine ED.many 5 [6, 11] 10 (by kernel_rfl) (by kernel_rfl) (Each.cons ?_ (Each.cons ?_ (Each.cons ?_ Each.nil)))
          · refine EO.Y (YO.loadBox hS 1 rfl 89 0 1 (.slice A355 x354.length C356) 23 (by kernel_rfl) (by kernel_rfl) (by kernel_rfl) (by kernel_rfl)) ?_
            have hC : Core B [] [Ro.sl (Kd.int .i64) (some ad434) C246 l244, Ro.sl (Kd.int .i64) A10 C11 l9] _ := ⟨_, _, hS⟩
            refine ⟨hC, ?_⟩
            refine ED.at' #[true, true, true, true, true, true, false, false, true, true, true, false, true, true, true, true, false, false, false, false, false, false, false] (by kernel_rfl) ?_
            refine ED.two 6 11 9 (by kernel_rfl) (by kernel_rfl) ?_ ?_
            · refine EO.lit (xs := ([(none, ([] : List S96).length, 0)] : List Hdr)) hS Kd.hdr 94 89 1 #[(0, .slice none ([] : List S96).length 0)] [.slice none ([] : List S96).length 0] 24 (by kernel_rfl) (by kernel_rfl) (by kernel_rfl) (fun _ => (by kernel_rfl)) rfl (by kernel_rfl) (fun w G hr => ⟨[.slice none ([] : List S96).length 0], [], rfl, rfl, rfl⟩) ?_
              intro g839 w hS
              have hS := St.nilO hS 96 kS96
              have hC : Core B [] [Ro.sl (Kd.int .i64) (some ad434) C246 l244, Ro.sl (Kd.int .i64) A10 C11 l9] _ := ⟨_, _, hS⟩
              refine ⟨hC, ?_⟩
              refine ED.at' #[true, true, true, true, true, true, true, false, true, true, true, false, true, true, true, true, false, false, false, false, false, false, false] (by kernel_rfl) ?_
              refine ED.two 7 11 8 (by kernel_rfl) (by kernel_rfl) ?_ ?_
              · have hS := St.as (os' := Ass.deep 94 96 kS96 (some ⟨g839, 0, none⟩) 1 ([([] : List S96)] : List (List S96)) :: Ass.own 3 (Kd.int .i64) (some ⟨g838, 0, none⟩) 1 l442 :: Ass.box 91 g236 [.slice A355 x354.length C356, .slice A359 x358.length C360] :: Ass.deep 94 96 kS96 A355 C356 x354 :: Ass.own 3 (Kd.int .i64) A359 C360 x358 :: os) (St.fold (B := B) (os := _) (rs := _) (et := 94) (et' := 96) (K := kS96) (hs := [(none, ([] : List S96).length, 0)]) (xs := ([([] : List S96)] : List (List S96))) ⟨rfl, trivial⟩ (St.re hS [0, 1] [] rfl sub_self)) rfl
                refine EO.appendDeep hS 89 89 24 3 0 kS96 A355 C356 x354 rfl (some ⟨g839, 0, none⟩) 1 ([([] : List S96)] : List (List S96)) rfl l438 hl438 (fun A841 C842 => Ass.deep 94 96 kS96 A841 C842 l438 :: Ass.own 3 (Kd.int .i64) (some ⟨g838, 0, none⟩) 1 l442 :: Ass.box 91 g236 [.slice A355 x354.length C356, .slice A359 x358.length C360] :: Ass.own 3 (Kd.int .i64) A359 C360 x358 :: os) 25 (by kernel_rfl) (by kernel_rfl) (by kernel_rfl) (by kernel_rfl) h437 (fun _ _ => rfl) ?_
                intro A841 C842 w hS
                have hC : Core B [] [Ro.sl (Kd.int .i64) (some ad434) C246 l244, Ro.sl (Kd.int .i64) A10 C11 l9] _ := ⟨_, _, hS⟩
                refine ⟨hC, ?_⟩
                refine ED.at' #[true, true, true, true, true, true, true, true, true, true, true, false, true, true, true, true, false, false, false, false, false, false, false] (by kernel_rfl) ?_
                refine ED.one 11 7 #[true, true, true, true, true, true, true, true, true, true, true, true, true, true, true, true, false, false, false, false, false, false, false] (by kernel_rfl) (by kernel_rfl) (by kernel_rfl) (EO.Y (YO.loadBox hS 2 rfl 66 1 1 (.slice A359 x358.length C360) 29 (by kernel_rfl) (by kernel_rfl) (by kernel_rfl) (by kernel_rfl)) ?_)
                have hC : Core B [] [Ro.sl (Kd.int .i64) (some ad434) C246 l244, Ro.sl (Kd.int .i64) A10 C11 l9] _ := ⟨_, _, hS⟩
                refine ⟨hC, ?_⟩
                refine ED.one 16 6 #[true, true, true, true, true, true, true, true, true, true, true, true, true, true, true, true, true, false, false, false, false, false, false] (by kernel_rfl) (by kernel_rfl) (by kernel_rfl) (EO.append hS 66 66 3 8 3 (Kd.int .i64) A359 C360 x358 rfl (some ⟨g838, 0, none⟩) 1 l442 (Rd.own 1 3 rfl) l444 hl444 (fun A843 C844 => Ass.deep 94 96 kS96 A841 C842 l438 :: Ass.own 3 (Kd.int .i64) (some ⟨g838, 0, none⟩) 1 l442 :: Ass.box 91 g236 [.slice A355 x354.length C356, .slice A359 x358.length C360] :: Ass.own 3 (Kd.int .i64) A843 C844 l444 :: os) 34 (by kernel_rfl) (by kernel_rfl) (by kernel_rfl) (by kernel_rfl) h443 (fun _ _ => rfl) ?_)
                intro A843 C844 w hS
                have hC : Core B [] [Ro.sl (Kd.int .i64) (some ad434) C246 l244, Ro.sl (Kd.int .i64) A10 C11 l9] _ := ⟨_, _, hS⟩
                refine ⟨hC, ?_⟩
                refine ED.quick hN hF hC [17, 18] [3, 12, 13, 14, 19, 25, 34, 36] 4 [(3, .pointer (some ⟨g236, 0, none⟩)), (12, .slice (some ad434) l244.length C246), (13, .int .i64 (l244.length : Int)), (14, .int .i64 x362), (19, .pointer (some ⟨g236, 0, none⟩)), (25, .slice A841 l438.length C842), (34, .slice A843 l444.length C844), (36, .pointer (some ⟨g236, 0, none⟩))] #[true, true, true, true, true, true, true, true, true, true, true, true, true, true, true, true, true, true, true, false, false, false, false] (by kernel_rfl) (by kernel_rfl) ?_
                refine ED.one 19 3 #[true, true, true, true, true, true, true, true, true, true, true, true, true, true, true, true, true, true, true, true, false, false, false] (by kernel_rfl) (by kernel_rfl) (by kernel_rfl) (EO.storeBox (os' := Ass.deep 94 96 kS96 A841 C842 l438 :: Ass.own 3 (Kd.int .i64) (some ⟨g838, 0, none⟩) 1 l442 :: Ass.box 91 g236 [.slice A841 l438.length C842, .slice A359 x358.length C360] :: Ass.own 3 (Kd.int .i64) A843 C844 l444 :: os) hS 2 rfl 89 0 (.slice A841 l438.length C842) [.slice A841 l438.length C842, .slice A359 x358.length C360] (by kernel_rfl) (by kernel_rfl) (by kernel_rfl) (by kernel_rfl) (by kernel_rfl) (by kernel_rfl) rfl rfl ?_)
                intro w hS
                have hC : Core B [] [Ro.sl (Kd.int .i64) (some ad434) C246 l244, Ro.sl (Kd.int .i64) A10 C11 l9] _ := ⟨_, _, hS⟩
                refine ⟨hC, ?_⟩
                refine ED.quick hN hF hC [20, 21] [3, 12, 13, 14, 34, 38] 1 [(3, .pointer (some ⟨g236, 0, none⟩)), (12, .slice (some ad434) l244.length C246), (13, .int .i64 (l244.length : Int)), (14, .int .i64 x362), (34, .slice A843 l444.length C844), (38, .pointer (some ⟨g236, 1, none⟩))] #[true, true, true, true, true, true, true, true, true, true, true, true, true, true, true, true, true, true, true, true, true, true, false] (by kernel_rfl) (by kernel_rfl) ?_
                refine ED.one 22 0 #[true, true, true, true, true, true, true, true, true, true, true, true, true, true, true, true, true, true, true, true, true, true, true] (by kernel_rfl) (by kernel_rfl) (by kernel_rfl) (EO.storeBox (os' := Ass.deep 94 96 kS96 A841 C842 l438 :: Ass.own 3 (Kd.int .i64) (some ⟨g838, 0, none⟩) 1 l442 :: Ass.box 91 g236 [.slice A841 l438.length C842, .slice A843 l444.length C844] :: Ass.own 3 (Kd.int .i64) A843 C844 l444 :: os) hS 2 rfl 66 1 (.slice A843 l444.length C844) [.slice A841 l438.length C842, .slice A843 l444.length C844] (by kernel_rfl) (by kernel_rfl) (by kernel_rfl) (by kernel_rfl) (by kernel_rfl) (by kernel_rfl) rfl rfl ?_)
                intro w hS
                have hC : Core B [] [Ro.sl (Kd.int .i64) (some ad434) C246 l244, Ro.sl (Kd.int .i64) A10 C11 l9] _ := ⟨_, _, hS⟩
                refine ⟨hC, ?_⟩
                refine ED.done (by kernel_rfl) ?_
                refine EQ.to ?_
                refine EQ.keep [3, 12, 13, 14] [(3, .pointer (some ⟨g236, 0, none⟩)), (12, .slice (some ad434) l244.length C246), (13, .int .i64 (l244.length : Int)), (14, .int .i64 x362)] (by kernel_rfl) ?_
                exact fun a ha => ⟨(some ⟨g838, 0, none⟩), 1, A841, C842, A843, C844, ha, (hS.re [3, 3, 2, 3] [] rfl (sub_cons 0 rfl (sub_cons 1 rfl (sub_tail (sub_tail (sub_self))))))⟩
              · refine EO.Y (YO.loadBox hS 3 rfl 66 1 1 (.slice A359 x358.length C360) 29 (by kernel_rfl) (by kernel_rfl) (by kernel_rfl) (by kernel_rfl)) ?_
                have hC : Core B [] [Ro.sl (Kd.int .i64) (some ad434) C246 l244, Ro.sl (Kd.int .i64) A10 C11 l9] _ := ⟨_, _, hS⟩
                refine ⟨hC, ?_⟩
                refine ED.at' #[true, true, true, true, true, true, true, false, true, true, true, true, true, true, true, true, false, false, false, false, false, false, false] (by kernel_rfl) ?_
                have hS := St.as (os' := Ass.deep 94 96 kS96 (some ⟨g839, 0, none⟩) 1 ([([] : List S96)] : List (List S96)) :: Ass.own 3 (Kd.int .i64) (some ⟨g838, 0, none⟩) 1 l442 :: Ass.box 91 g236 [.slice A355 x354.length C356, .slice A359 x358.length C360] :: Ass.deep 94 96 kS96 A355 C356 x354 :: Ass.own 3 (Kd.int .i64) A359 C360 x358 :: os) (St.fold (B := B) (os := _) (rs := _) (et := 94) (et' := 96) (K := kS96) (hs := [(none, ([] : List S96).length, 0)]) (xs := ([([] : List S96)] : List (List S96))) ⟨rfl, trivial⟩ (St.re hS [0, 1] [] rfl sub_self)) rfl
                refine ED.one 7 7 #[true, true, true, true, true, true, true, true, true, true, true, true, true, true, true, true, false, false, false, false, false, false, false] (by kernel_rfl) (by kernel_rfl) (by kernel_rfl) (EO.appendDeep hS 89 89 24 3 0 kS96 A355 C356 x354 rfl (some ⟨g839, 0, none⟩) 1 ([([] : List S96)] : List (List S96)) rfl l438 hl438 (fun A845 C846 => Ass.deep 94 96 kS96 A845 C846 l438 :: Ass.own 3 (Kd.int .i64) (some ⟨g838, 0, none⟩) 1 l442 :: Ass.box 91 g236 [.slice A355 x354.length C356, .slice A359 x358.length C360] :: Ass.own 3 (Kd.int .i64) A359 C360 x358 :: os) 25 (by kernel_rfl) (by kernel_rfl) (by kernel_rfl) (by kernel_rfl) h437 (fun _ _ => rfl) ?_)
                intro A845 C846 w hS
                have hC : Core B [] [Ro.sl (Kd.int .i64) (some ad434) C246 l244, Ro.sl (Kd.int .i64) A10 C11 l9] _ := ⟨_, _, hS⟩
                refine ⟨hC, ?_⟩
                refine ED.one 16 6 #[true, true, true, true, true, true, true, true, true, true, true, true, true, true, true, true, true, false, false, false, false, false, false] (by kernel_rfl) (by kernel_rfl) (by kernel_rfl) (EO.append hS 66 66 3 8 3 (Kd.int .i64) A359 C360 x358 rfl (some ⟨g838, 0, none⟩) 1 l442 (Rd.own 1 3 rfl) l444 hl444 (fun A847 C848 => Ass.deep 94 96 kS96 A845 C846 l438 :: Ass.own 3 (Kd.int .i64) (some ⟨g838, 0, none⟩) 1 l442 :: Ass.box 91 g236 [.slice A355 x354.length C356, .slice A359 x358.length C360] :: Ass.own 3 (Kd.int .i64) A847 C848 l444 :: os) 34 (by kernel_rfl) (by kernel_rfl) (by kernel_rfl) (by kernel_rfl) h443 (fun _ _ => rfl) ?_)
                intro A847 C848 w hS
                have hC : Core B [] [Ro.sl (Kd.int .i64) (some ad434) C246 l244, Ro.sl (Kd.int .i64) A10 C11 l9] _ := ⟨_, _, hS⟩
                refine ⟨hC, ?_⟩
                refine ED.quick hN hF hC [17, 18] [3, 12, 13, 14, 19, 25, 34, 36] 4 [(3, .pointer (some ⟨g236, 0, none⟩)), (12, .slice (some ad434) l244.length C246), (13, .int .i64 (l244.length : Int)), (14, .int .i64 x362), (19, .pointer (some ⟨g236, 0, none⟩)), (25, .slice A845 l438.length C846), (34, .slice A847 l444.length C848), (36, .pointer (some ⟨g236, 0, none⟩))] #[true, true, true, true, true, true, true, true, true, true, true, true, true, true, true, true, true, true, true, false, false, false, false] (by kernel_rfl) (by kernel_rfl) ?_
                refine ED.one 19 3 #[true, true, true, true, true, true, true, true, true, true, true, true, true, true, true, true, true, true, true, true, false, false, false] (by kernel_rfl) (by kernel_rfl) (by kernel_rfl) (EO.storeBox (os' := Ass.deep 94 96 kS96 A845 C846 l438 :: Ass.own 3 (Kd.int .i64) (some ⟨g838, 0, none⟩) 1 l442 :: Ass.box 91 g236 [.slice A845 l438.length C846, .slice A359 x358.length C360] :: Ass.own 3 (Kd.int .i64) A847 C848 l444 :: os) hS 2 rfl 89 0 (.slice A845 l438.length C846) [.slice A845 l438.length C846, .slice A359 x358.length C360] (by kernel_rfl) (by kernel_rfl) (by kernel_rfl) (by kernel_rfl) (by kernel_rfl) (by kernel_rfl) rfl rfl ?_)
                intro w hS
                have hC : Core B [] [Ro.sl (Kd.int .i64) (some ad434) C246 l244, Ro.sl (Kd.int .i64) A10 C11 l9] _ := ⟨_, _, hS⟩
                refine ⟨hC, ?_⟩
                refine ED.quick hN hF hC [20, 21] [3, 12, 13, 14, 34, 38] 1 [(3, .pointer (some ⟨g236, 0, none⟩)), (12, .slice (some ad434) l244.length C246), (13, .int .i64 (l244.length : Int)), (14, .int .i64 x362), (34, .slice A847 l444.length C848), (38, .pointer (some ⟨g236, 1, none⟩))] #[true, true, true, true, true, true, true, true, true, true, true, true, true, true, true, true, true, true, true, true, true, true, false] (by kernel_rfl) (by kernel_rfl) ?_
                refine ED.one 22 0 #[true, true, true, true, true, true, true, true, true, true, true, true, true, true, true, true, true, true, true, true, true, true, true] (by kernel_rfl) (by kernel_rfl) (by kernel_rfl) (EO.storeBox (os' := Ass.deep 94 96 kS96 A845 C846 l438 :: Ass.own 3 (Kd.int .i64) (some ⟨g838, 0, none⟩) 1 l442 :: Ass.box 91 g236 [.slice A845 l438.length C846, .slice A847 l444.length C848] :: Ass.own 3 (Kd.int .i64) A847 C848 l444 :: os) hS 2 rfl 66 1 (.slice A847 l444.length C848) [.slice A845 l438.length C846, .slice A847 l444.length C848] (by kernel_rfl) (by kernel_rfl) (by kernel_rfl) (by kernel_rfl) (by kernel_rfl) (by kernel_rfl) rfl rfl ?_)
                intro w hS
                have hC : Core B [] [Ro.sl (Kd.int .i64) (some ad434) C246 l244, Ro.sl (Kd.int .i64) A10 C11 l9] _ := ⟨_, _, hS⟩
                refine ⟨hC, ?_⟩
                refine ED.done (by kernel_rfl) ?_
                refine EQ.to ?_
                refine EQ.keep [3, 12, 13, 14] [(3, .pointer (some ⟨g236, 0, none⟩)), (12, .slice (some ad434) l244.length C246), (13, .int .i64 (l244.length : Int)), (14, .int .i64 x362)] (by kernel_rfl) ?_
                exact fun a ha => ⟨(some ⟨g838, 0, none⟩), 1, A845, C846, A847, C848, ha, (hS.re [3, 3, 2, 3] [] rfl (sub_cons 0 rfl (sub_cons 1 rfl (sub_tail (sub_tail (sub_self))))))⟩
            · refine EO.Y (YO.loadBox hS 1 rfl 66 1 1 (.slice A359 x358.length C360) 29 (by kernel_rfl) (by kernel_rfl) (by kernel_rfl) (by kernel_rfl)) ?_
              have hC : Core B [] [Ro.sl (Kd.int .i64) (some ad434) C246 l244, Ro.sl (Kd.int .i64) A10 C11 l9] _ := ⟨_, _, hS⟩
              refine ⟨hC, ?_⟩
              refine ED.at' #[true, true, true, true, true, true, false, false, true, true, true, true, true, true, true, true, false, false, false, false, false, false, false] (by kernel_rfl) ?_
              refine ED.one 6 8 #[true, true, true, true, true, true, true, false, true, true, true, true, true, true, true, true, false, false, false, false, false, false, false] (by kernel_rfl) (by kernel_rfl) (by kernel_rfl) (EO.lit (xs := ([(none, ([] : List S96).length, 0)] : List Hdr)) hS Kd.hdr 94 89 1 #[(0, .slice none ([] : List S96).length 0)] [.slice none ([] : List S96).length 0] 24 (by kernel_rfl) (by kernel_rfl) (by kernel_rfl) (fun _ => (by kernel_rfl)) rfl (by kernel_rfl) (fun w G hr => ⟨[.slice none ([] : List S96).length 0], [], rfl, rfl, rfl⟩) ?_)
              intro g849 w hS
              have hS := St.nilO hS 96 kS96
              have hC : Core B [] [Ro.sl (Kd.int .i64) (some ad434) C246 l244, Ro.sl (Kd.int .i64) A10 C11 l9] _ := ⟨_, _, hS⟩
              refine ⟨hC, ?_⟩
              have hS := St.as (os' := Ass.deep 94 96 kS96 (some ⟨g849, 0, none⟩) 1 ([([] : List S96)] : List (List S96)) :: Ass.own 3 (Kd.int .i64) (some ⟨g838, 0, none⟩) 1 l442 :: Ass.box 91 g236 [.slice A355 x354.length C356, .slice A359 x358.length C360] :: Ass.deep 94 96 kS96 A355 C356 x354 :: Ass.own 3 (Kd.int .i64) A359 C360 x358 :: os) (St.fold (B := B) (os := _) (rs := _) (et := 94) (et' := 96) (K := kS96) (hs := [(none, ([] : List S96).length, 0)]) (xs := ([([] : List S96)] : List (List S96))) ⟨rfl, trivial⟩ (St.re hS [0, 1] [] rfl sub_self)) rfl
              refine ED.one 7 7 #[true, true, true, true, true, true, true, true, true, true, true, true, true, true, true, true, false, false, false, false, false, false, false] (by kernel_rfl) (by kernel_rfl) (by kernel_rfl) (EO.appendDeep hS 89 89 24 3 0 kS96 A355 C356 x354 rfl (some ⟨g849, 0, none⟩) 1 ([([] : List S96)] : List (List S96)) rfl l438 hl438 (fun A851 C852 => Ass.deep 94 96 kS96 A851 C852 l438 :: Ass.own 3 (Kd.int .i64) (some ⟨g838, 0, none⟩) 1 l442 :: Ass.box 91 g236 [.slice A355 x354.length C356, .slice A359 x358.length C360] :: Ass.own 3 (Kd.int .i64) A359 C360 x358 :: os) 25 (by kernel_rfl) (by kernel_rfl) (by kernel_rfl) (by kernel_rfl) h437 (fun _ _ => rfl) ?_)
              intro A851 C852 w hS
              have hC : Core B [] [Ro.sl (Kd.int .i64) (some ad434) C246 l244, Ro.sl (Kd.int .i64) A10 C11 l9] _ := ⟨_, _, hS⟩
              refine ⟨hC, ?_⟩
              refine ED.one 16 6 #[true, true, true, true, true, true, true, true, true, true, true, true, true, true, true, true, true, false, false, false, false, false, false] (by kernel_rfl) (by kernel_rfl) (by kernel_rfl) (EO.append hS 66 66 3 8 3 (Kd.int .i64) A359 C360 x358 rfl (some ⟨g838, 0, none⟩) 1 l442 (Rd.own 1 3 rfl) l444 hl444 (fun A853 C854 => Ass.deep 94 96 kS96 A851 C852 l438 :: Ass.own 3 (Kd.int .i64) (some ⟨g838, 0, none⟩) 1 l442 :: Ass.box 91 g236 [.slice A355 x354.length C356, .slice A359 x358.length C360] :: Ass.own 3 (Kd.int .i64) A853 C854 l444 :: os) 34 (by kernel_rfl) (by kernel_rfl) (by kernel_rfl) (by kernel_rfl) h443 (fun _ _ => rfl) ?_)
              intro A853 C854 w hS
              have hC : Core B [] [Ro.sl (Kd.int .i64) (some ad434) C246 l244, Ro.sl (Kd.int .i64) A10 C11 l9] _ := ⟨_, _, hS⟩
              refine ⟨hC, ?_⟩
              refine ED.quick hN hF hC [17, 18] [3, 12, 13, 14, 19, 25, 34, 36] 4 [(3, .pointer (some ⟨g236, 0, none⟩)), (12, .slice (some ad434) l244.length C246), (13, .int .i64 (l244.length : Int)), (14, .int .i64 x362), (19, .pointer (some ⟨g236, 0, none⟩)), (25, .slice A851 l438.length C852), (34, .slice A853 l444.length C854), (36, .pointer (some ⟨g236, 0, none⟩))] #[true, true, true, true, true, true, true, true, true, true, true, true, true, true, true, true, true, true, true, false, false, false, false] (by kernel_rfl) (by kernel_rfl) ?_
              refine ED.one 19 3 #[true, true, true, true, true, true, true, true, true, true, true, true, true, true, true, true, true, true, true, true, false, false, false] (by kernel_rfl) (by kernel_rfl) (by kernel_rfl) (EO.storeBox (os' := Ass.deep 94 96 kS96 A851 C852 l438 :: Ass.own 3 (Kd.int .i64) (some ⟨g838, 0, none⟩) 1 l442 :: Ass.box 91 g236 [.slice A851 l438.length C852, .slice A359 x358.length C360] :: Ass.own 3 (Kd.int .i64) A853 C854 l444 :: os) hS 2 rfl 89 0 (.slice A851 l438.length C852) [.slice A851 l438.length C852, .slice A359 x358.length C360] (by kernel_rfl) (by kernel_rfl) (by kernel_rfl) (by kernel_rfl) (by kernel_rfl) (by kernel_rfl) rfl rfl ?_)
              intro w hS
              have hC : Core B [] [Ro.sl (Kd.int .i64) (some ad434) C246 l244, Ro.sl (Kd.int .i64) A10 C11 l9] _ := ⟨_, _, hS⟩
              refine ⟨hC, ?_⟩
              refine ED.quick hN hF hC [20, 21] [3, 12, 13, 14, 34, 38] 1 [(3, .pointer (some ⟨g236, 0, none⟩)), (12, .slice (some ad434) l244.length C246), (13, .int .i64 (l244.length : Int)), (14, .int .i64 x362), (34, .slice A853 l444.length C854), (38, .pointer (some ⟨g236, 1, none⟩))] #[true, true, true, true, true, true, true, true, true, true, true, true, true, true, true, true, true, true, true, true, true, true, false] (by kernel_rfl) (by kernel_rfl) ?_
              refine ED.one 22 0 #[true, true, true, true, true, true, true, true, true, true, true, true, true, true, true, true, true, true, true, true, true, true, true] (by kernel_rfl) (by kernel_rfl) (by kernel_rfl) (EO.storeBox (os' := Ass.deep 94 96 kS96 A851 C852 l438 :: Ass.own 3 (Kd.int .i64) (some ⟨g838, 0, none⟩) 1 l442 :: Ass.box 91 g236 [.slice A851 l438.length C852, .slice A853 l444.length C854] :: Ass.own 3 (Kd.int .i64) A853 C854 l444 :: os) hS 2 rfl 66 1 (.slice A853 l444.length C854) [.slice A851 l438.length C852, .slice A853 l444.length C854] (by kernel_rfl) (by kernel_rfl) (by kernel_rfl) (by kernel_rfl) (by kernel_rfl) (by kernel_rfl) rfl rfl ?_)
              intro w hS
              have hC : Core B [] [Ro.sl (Kd.int .i64) (some ad434) C246 l244, Ro.sl (Kd.int .i64) A10 C11 l9] _ := ⟨_, _, hS⟩
              refine ⟨hC, ?_⟩
              refine ED.done (by kernel_rfl) ?_
              refine EQ.to ?_
              refine EQ.keep [3, 12, 13, 14] [(3, .pointer (some ⟨g236, 0, none⟩)), (12, .slice (some ad434) l244.length C246), (13, .int .i64 (l244.length : Int)), (14, .int .i64 x362)] (by kernel_rfl) ?_
              exact fun a ha => ⟨(some ⟨g838, 0, none⟩), 1, A851, C852, A853, C854, ha, (hS.re [3, 3, 2, 3] [] rfl (sub_cons 0 rfl (sub_cons 1 rfl (sub_tail (sub_tail (sub_self))))))⟩
          · refine EO.lit (xs := ([(none, ([] : List S96).length, 0)] : List Hdr)) hS Kd.hdr 94 89 1 #[(0, .slice none ([] : List S96).length 0)] [.slice none ([] : List S96).length 0] 24 (by kernel_rfl) (by kernel_rfl) (by kernel_rfl) (fun _ => (by kernel_rfl)) rfl (by kernel_rfl) (fun w G hr => ⟨[.slice none ([] : List S96).length 0], [], rfl, rfl, rfl⟩) ?_
            intro g855 w hS
            have hS := St.nilO hS 96 kS96
            have hC : Core B [] [Ro.sl (Kd.int .i64) (some ad434) C246 l244, Ro.sl (Kd.int .i64) A10 C11 l9] _ := ⟨_, _, hS⟩
            refine ⟨hC, ?_⟩
            refine ED.at' #[true, true, true, true, true, false, true, false, true, true, true, false, true, true, true, true, false, false, false, false, false, false, false] (by kernel_rfl) ?_
            refine ED.two 5 11 9 (by kernel_rfl) (by kernel_rfl) ?_ ?_
            · refine EO.Y (YO.loadBox hS 3 rfl 89 0 1 (.slice A355 x354.length C356) 23 (by kernel_rfl) (by kernel_rfl) (by kernel_rfl) (by kernel_rfl)) ?_
              have hC : Core B [] [Ro.sl (Kd.int .i64) (some ad434) C246 l244, Ro.sl (Kd.int .i64) A10 C11 l9] _ := ⟨_, _, hS⟩
              refine ⟨hC, ?_⟩
              refine ED.at' #[true, true, true, true, true, true, true, false, true, true, true, false, true, true, true, true, false, false, false, false, false, false, false] (by kernel_rfl) ?_
              refine ED.two 7 11 8 (by kernel_rfl) (by kernel_rfl) ?_ ?_
              · have hS := St.as (os' := Ass.deep 94 96 kS96 (some ⟨g855, 0, none⟩) 1 ([([] : List S96)] : List (List S96)) :: Ass.own 3 (Kd.int .i64) (some ⟨g838, 0, none⟩) 1 l442 :: Ass.box 91 g236 [.slice A355 x354.length C356, .slice A359 x358.length C360] :: Ass.deep 94 96 kS96 A355 C356 x354 :: Ass.own 3 (Kd.int .i64) A359 C360 x358 :: os) (St.fold (B := B) (os := _) (rs := _) (et := 94) (et' := 96) (K := kS96) (hs := [(none, ([] : List S96).length, 0)]) (xs := ([([] : List S96)] : List (List S96))) ⟨rfl, trivial⟩ (St.re hS [0, 1] [] rfl sub_self)) rfl
                refine EO.appendDeep hS 89 89 24 3 0 kS96 A355 C356 x354 rfl (some ⟨g855, 0, none⟩) 1 ([([] : List S96)] : List (List S96)) rfl l438 hl438 (fun A857 C858 => Ass.deep 94 96 kS96 A857 C858 l438 :: Ass.own 3 (Kd.int .i64) (some ⟨g838, 0, none⟩) 1 l442 :: Ass.box 91 g236 [.slice A355 x354.length C356, .slice A359 x358.length C360] :: Ass.own 3 (Kd.int .i64) A359 C360 x358 :: os) 25 (by kernel_rfl) (by kernel_rfl) (by kernel_rfl) (by kernel_rfl) h437 (fun _ _ => rfl) ?_
                intro A857 C858 w hS
                have hC : Core B [] [Ro.sl (Kd.int .i64) (some ad434) C246 l244, Ro.sl (Kd.int .i64) A10 C11 l9] _ := ⟨_, _, hS⟩
                refine ⟨hC, ?_⟩
                refine ED.at' #[true, true, true, true, true, true, true, true, true, true, true, false, true, true, true, true, false, false, false, false, false, false, false] (by kernel_rfl) ?_
                refine ED.one 11 7 #[true, true, true, true, true, true, true, true, true, true, true, true, true, true, true, true, false, false, false, false, false, false, false] (by kernel_rfl) (by kernel_rfl) (by kernel_rfl) (EO.Y (YO.loadBox hS 2 rfl 66 1 1 (.slice A359 x358.length C360) 29 (by kernel_rfl) (by kernel_rfl) (by kernel_rfl) (by kernel_rfl)) ?_)
                have hC : Core B [] [Ro.sl (Kd.int .i64) (some ad434) C246 l244, Ro.sl (Kd.int .i64) A10 C11 l9] _ := ⟨_, _, hS⟩
                refine ⟨hC, ?_⟩
                refine ED.one 16 6 #[true, true, true, true, true, true, true, true, true, true, true, true, true, true, true, true, true, false, false, false, false, false, false] (by kernel_rfl) (by kernel_rfl) (by kernel_rfl) (EO.append hS 66 66 3 8 3 (Kd.int .i64) A359 C360 x358 rfl (some ⟨g838, 0, none⟩) 1 l442 (Rd.own 1 3 rfl) l444 hl444 (fun A859 C860 => Ass.deep 94 96 kS96 A857 C858 l438 :: Ass.own 3 (Kd.int .i64) (some ⟨g838, 0, none⟩) 1 l442 :: Ass.box 91 g236 [.slice A355 x354.length C356, .slice A359 x358.length C360] :: Ass.own 3 (Kd.int .i64) A859 C860 l444 :: os) 34 (by kernel_rfl) (by kernel_rfl) (by kernel_rfl) (by kernel_rfl) h443 (fun _ _ => rfl) ?_)
                intro A859 C860 w hS
                have hC : Core B [] [Ro.sl (Kd.int .i64) (some ad434) C246 l244, Ro.sl (Kd.int .i64) A10 C11 l9] _ := ⟨_, _, hS⟩
                refine ⟨hC, ?_⟩
                refine ED.quick hN hF hC [17, 18] [3, 12, 13, 14, 19, 25, 34, 36] 4 [(3, .pointer (some ⟨g236, 0, none⟩)), (12, .slice (some ad434) l244.length C246), (13, .int .i64 (l244.length : Int)), (14, .int .i64 x362), (19, .pointer (some ⟨g236, 0, none⟩)), (25, .slice A857 l438.length C858), (34, .slice A859 l444.length C860), (36, .pointer (some ⟨g236, 0, none⟩))] #[true, true, true, true, true, true, true, true, true, true, true, true, true, true, true, true, true, true, true, false, false, false, false] (by kernel_rfl) (by kernel_rfl) ?_
                refine ED.one 19 3 #[true, true, true, true, true, true, true, true, true, true, true, true, true, true, true, true, true, true, true, true, false, false, false] (by kernel_rfl) (by kernel_rfl) (by kernel_rfl) (EO.storeBox (os' := Ass.deep 94 96 kS96 A857 C858 l438 :: Ass.own 3 (Kd.int .i64) (some ⟨g838, 0, none⟩) 1 l442 :: Ass.box 91 g236 [.slice A857 l438.length C858, .slice A359 x358.length C360] :: Ass.own 3 (Kd.int .i64) A859 C860 l444 :: os) hS 2 rfl 89 0 (.slice A857 l438.length C858) [.slice A857 l438.length C858, .slice A359 x358.length C360] (by kernel_rfl) (by kernel_rfl) (by kernel_rfl) (by kernel_rfl) (by kernel_rfl) (by kernel_rfl) rfl rfl ?_)
                intro w hS
                have hC : Core B [] [Ro.sl (Kd.int .i64) (some ad434) C246 l244, Ro.sl (Kd.int .i64) A10 C11 l9] _ := ⟨_, _, hS⟩
                refine ⟨hC, ?_⟩
                refine ED.quick hN hF hC [20, 21] [3, 12, 13, 14, 34, 38] 1 [(3, .pointer (some ⟨g236, 0, none⟩)), (12, .slice (some ad434) l244.length C246), (13, .int .i64 (l244.length : Int)), (14, .int .i64 x362), (34, .slice A859 l444.length C860), (38, .pointer (some ⟨g236, 1, none⟩))] #[true, true, true, true, true, true, true, true, true, true, true, true, true, true, true, true, true, true, true, true, true, true, false] (by kernel_rfl) (by kernel_rfl) ?_
                refine ED.one 22 0 #[true, true, true, true, true, true, true, true, true, true, true, true, true, true, true, true, true, true, true, true, true, true, true] (by kernel_rfl) (by kernel_rfl) (by kernel_rfl) (EO.storeBox (os' := Ass.deep 94 96 kS96 A857 C858 l438 :: Ass.own 3 (Kd.int .i64) (some ⟨g838, 0, none⟩) 1 l442 :: Ass.box 91 g236 [.slice A857 l438.length C858, .slice A859 l444.length C860] :: Ass.own 3 (Kd.int .i64) A859 C860 l444 :: os) hS 2 rfl 66 1 (.slice A859 l444.length C860) [.slice A857 l438.length C858, .slice A859 l444.length C860] (by kernel_rfl) (by kernel_rfl) (by kernel_rfl) (by kernel_rfl) (by kernel_rfl) (by kernel_rfl) rfl rfl ?_)
                intro w hS
                have hC : Core B [] [Ro.sl (Kd.int .i64) (some ad434) C246 l244, Ro.sl (Kd.int .i64) A10 C11 l9] _ := ⟨_, _, hS⟩
                refine ⟨hC, ?_⟩
                refine ED.done (by kernel_rfl) ?_
                refine EQ.to ?_
                refine EQ.keep [3, 12, 13, 14] [(3, .pointer (some ⟨g236, 0, none⟩)), (12, .slice (some ad434) l244.length C246), (13, .int .i64 (l244.length : Int)), (14, .int .i64 x362)] (by kernel_rfl) ?_
                exact fun a ha => ⟨(some ⟨g838, 0, none⟩), 1, A857, C858, A859, C860, ha, (hS.re [3, 3, 2, 3] [] rfl (sub_cons 0 rfl (sub_cons 1 rfl (sub_tail (sub_tail (sub_self))))))⟩
              · refine EO.Y (YO.loadBox hS 3 rfl 66 1 1 (.slice A359 x358.length C360) 29 (by kernel_rfl) (by kernel_rfl) (by kernel_rfl) (by kernel_rfl)) ?_
                have hC : Core B [] [Ro.sl (Kd.int .i64) (some ad434) C246 l244, Ro.sl (Kd.int .i64) A10 C11 l9] _ := ⟨_, _, hS⟩
                refine ⟨hC, ?_⟩
                refine ED.at' #[true, true, true, true, true, true, true, false, true, true, true, true, true, true, true, true, false, false, false, false, false, false, false] (by kernel_rfl) ?_
                have hS := St.as (os' := Ass.deep 94 96 kS96 (some ⟨g855, 0, none⟩) 1 ([([] : List S96)] : List (List S96)) :: Ass.own 3 (Kd.int .i64) (some ⟨g838, 0, none⟩) 1 l442 :: Ass.box 91 g236 [.slice A355 x354.length C356, .slice A359 x358.length C360] :: Ass.deep 94 96 kS96 A355 C356 x354 :: Ass.own 3 (Kd.int .i64) A359 C360 x358 :: os) (St.fold (B := B) (os := _) (rs := _) (et := 94) (et' := 96) (K := kS96) (hs := [(none, ([] : List S96).length, 0)]) (xs := ([([] : List S96)] : List (List S96))) ⟨rfl, trivial⟩ (St.re hS [0, 1] [] rfl sub_self)) rfl
                refine ED.one 7 7 #[true, true, true, true, true, true, true, true, true, true, true, true, true, true, true, true, false, false, false, false, false, false, false] (by kernel_rfl) (by kernel_rfl) (by kernel_rfl) (EO.appendDeep hS 89 89 24 3 0 kS96 A355 C356 x354 rfl (some ⟨g855, 0, none⟩) 1 ([([] : List S96)] : List (List S96)) rfl l438 hl438 (fun A861 C862 => Ass.deep 94 96 kS96 A861 C862 l438 :: Ass.own 3 (Kd.int .i64) (some ⟨g838, 0, none⟩) 1 l442 :: Ass.box 91 g236 [.slice A355 x354.length C356, .slice A359 x358.length C360] :: Ass.own 3 (Kd.int .i64) A359 C360 x358 :: os) 25 (by kernel_rfl) (by kernel_rfl) (by kernel_rfl) (by kernel_rfl) h437 (fun _ _ => rfl) ?_)
                intro A861 C862 w hS
                have hC : Core B [] [Ro.sl (Kd.int .i64) (some ad434) C246 l244, Ro.sl (Kd.int .i64) A10 C11 l9] _ := ⟨_, _, hS⟩
                refine ⟨hC, ?_⟩
                refine ED.one 16 6 #[true, true, true, true, true, true, true, true, true, true, true, true, true, true, true, true, true, false, false, false, false, false, false] (by kernel_rfl) (by kernel_rfl) (by kernel_rfl) (EO.append hS 66 66 3 8 3 (Kd.int .i64) A359 C360 x358 rfl (some ⟨g838, 0, none⟩) 1 l442 (Rd.own 1 3 rfl) l444 hl444 (fun A863 C864 => Ass.deep 94 96 kS96 A861 C862 l438 :: Ass.own 3 (Kd.int .i64) (some ⟨g838, 0, none⟩) 1 l442 :: Ass.box 91 g236 [.slice A355 x354.length C356, .slice A359 x358.length C360] :: Ass.own 3 (Kd.int .i64) A863 C864 l444 :: os) 34 (by kernel_rfl) (by kernel_rfl) (by kernel_rfl) (by kernel_rfl) h443 (fun _ _ => rfl) ?_)
                intro A863 C864 w hS
                have hC : Core B [] [Ro.sl (Kd.int .i64) (some ad434) C246 l244, Ro.sl (Kd.int .i64) A10 C11 l9] _ := ⟨_, _, hS⟩
                refine ⟨hC, ?_⟩
                refine ED.quick hN hF hC [17, 18] [3, 12, 13, 14, 19, 25, 34, 36] 4 [(3, .pointer (some ⟨g236, 0, none⟩)), (12, .slice (some ad434) l244.length C246), (13, .int .i64 (l244.length : Int)), (14, .int .i64 x362), (19, .pointer (some ⟨g236, 0, none⟩)), (25, .slice A861 l438.length C862), (34, .slice A863 l444.length C864), (36, .pointer (some ⟨g236, 0, none⟩))] #[true, true, true, true, true, true, true, true, true, true, true, true, true, true, true, true, true, true, true, false, false, false, false] (by kernel_rfl) (by kernel_rfl) ?_
                refine ED.one 19 3 #[true, true, true, true, true, true, true, true, true, true, true, true, true, true, true, true, true, true, true, true, false, false, false] (by kernel_rfl) (by kernel_rfl) (by kernel_rfl) (EO.storeBox (os' := Ass.deep 94 96 kS96 A861 C862 l438 :: Ass.own 3 (Kd.int .i64) (some ⟨g838, 0, none⟩) 1 l442 :: Ass.box 91 g236 [.slice A861 l438.length C862, .slice A359 x358.length C360] :: Ass.own 3 (Kd.int .i64) A863 C864 l444 :: os) hS 2 rfl 89 0 (.slice A861 l438.length C862) [.slice A861 l438.length C862, .slice A359 x358.length C360] (by kernel_rfl) (by kernel_rfl) (by kernel_rfl) (by kernel_rfl) (by kernel_rfl) (by kernel_rfl) rfl rfl ?_)
                intro w hS
                have hC : Core B [] [Ro.sl (Kd.int .i64) (some ad434) C246 l244, Ro.sl (Kd.int .i64) A10 C11 l9] _ := ⟨_, _, hS⟩
                refine ⟨hC, ?_⟩
                refine ED.quick hN hF hC [20, 21] [3, 12, 13, 14, 34, 38] 1 [(3, .pointer (some ⟨g236, 0, none⟩)), (12, .slice (some ad434) l244.length C246), (13, .int .i64 (l244.length : Int)), (14, .int .i64 x362), (34, .slice A863 l444.length C864), (38, .pointer (some ⟨g236, 1, none⟩))] #[true, true, true, true, true, true, true, true, true, true, true, true, true, true, true, true, true, true, true, true, true, true, false] (by kernel_rfl) (by kernel_rfl) ?_
                refine ED.one 22 0 #[true, true, true, true, true, true, true, true, true, true, true, true, true, true, true, true, true, true, true, true, true, true, true] (by kernel_rfl) (by kernel_rfl) (by kernel_rfl) (EO.storeBox (os' := Ass.deep 94 96 kS96 A861 C862 l438 :: Ass.own 3 (Kd.int .i64) (some ⟨g838, 0, none⟩) 1 l442 :: Ass.box 91 g236 [.slice A861 l438.length C862, .slice A863 l444.length C864] :: Ass.own 3 (Kd.int .i64) A863 C864 l444 :: os) hS 2 rfl 66 1 (.slice A863 l444.length C864) [.slice A861 l438.length C862, .slice A863 l444.length C864] (by kernel_rfl) (by kernel_rfl) (by kernel_rfl) (by kernel_rfl) (by kernel_rfl) (by kernel_rfl) rfl rfl ?_)
                intro w hS
                have hC : Core B [] [Ro.sl (Kd.int .i64) (some ad434) C246 l244, Ro.sl (Kd.int .i64) A10 C11 l9] _ := ⟨_, _, hS⟩
                refine ⟨hC, ?_⟩
                refine ED.done (by kernel_rfl) ?_
                refine EQ.to ?_
                refine EQ.keep [3, 12, 13, 14] [(3, .pointer (some ⟨g236, 0, none⟩)), (12, .slice (some ad434) l244.length C246), (13, .int .i64 (l244.length : Int)), (14, .int .i64 x362)] (by kernel_rfl) ?_
                exact fun a ha => ⟨(some ⟨g838, 0, none⟩), 1, A861, C862, A863, C864, ha, (hS.re [3, 3, 2, 3] [] rfl (sub_cons 0 rfl (sub_cons 1 rfl (sub_tail (sub_tail (sub_self))))))⟩
            · refine EO.Y (YO.loadBox hS 3 rfl 66 1 1 (.slice A359 x358.length C360) 29 (by kernel_rfl) (by kernel_rfl) (by kernel_rfl) (by kernel_rfl)) ?_
              have hC : Core B [] [Ro.sl (Kd.int .i64) (some ad434) C246 l244, Ro.sl (Kd.int .i64) A10 C11 l9] _ := ⟨_, _, hS⟩
              refine ⟨hC, ?_⟩
              refine ED.at' #[true, true, true, true, true, false, true, false, true, true, true, true, true, true, true, true, false, false, false, false, false, false, false] (by kernel_rfl) ?_
              refine ED.one 5 8 #[true, true, true, true, true, true, true, false, true, true, true, true, true, true, true, true, false, false, false, false, false, false, false] (by kernel_rfl) (by kernel_rfl) (by kernel_rfl) (EO.Y (YO.loadBox hS 3 rfl 89 0 1 (.slice A355 x354.length C356) 23 (by kernel_rfl) (by kernel_rfl) (by kernel_rfl) (by kernel_rfl)) ?_)
              have hC : Core B [] [Ro.sl (Kd.int .i64) (some ad434) C246 l244, Ro.sl (Kd.int .i64) A10 C11 l9] _ := ⟨_, _, hS⟩
              refine ⟨hC, ?_⟩
              have hS := St.as (os' := Ass.deep 94 96 kS96 (some ⟨g855, 0, none⟩) 1 ([([] : List S96)] : List (List S96)) :: Ass.own 3 (Kd.int .i64) (some ⟨g838, 0, none⟩) 1 l442 :: Ass.box 91 g236 [.slice A355 x354.length C356, .slice A359 x358.length C360] :: Ass.deep 94 96 kS96 A355 C356 x354 :: Ass.own 3 (Kd.int .i64) A359 C360 x358 :: os) (St.fold (B := B) (os := _) (rs := _) (et := 94) (et' := 96) (K := kS96) (hs := [(none, ([] : List S96).length, 0)]) (xs := ([([] : List S96)] : List (List S96))) ⟨rfl, trivial⟩ (St.re hS [0, 1] [] rfl sub_self)) rfl
              refine ED.one 7 7 #[true, true, true, true, true, true, true, true, true, true, true, true, true, true, true, true, false, false, false, false, false, false, false] (by kernel_rfl) (by kernel_rfl) (by kernel_rfl) (EO.appendDeep hS 89 89 24 3 0 kS96 A355 C356 x354 rfl (some ⟨g855, 0, none⟩) 1 ([([] : List S96)] : List (List S96)) rfl l438 hl438 (fun A865 C866 => Ass.deep 94 96 kS96 A865 C866 l438 :: Ass.own 3 (Kd.int .i64) (some ⟨g838, 0, none⟩) 1 l442 :: Ass.box 91 g236 [.slice A355 x354.length C356, .slice A359 x358.length C360] :: Ass.own 3 (Kd.int .i64) A359 C360 x358 :: os) 25 (by kernel_rfl) (by kernel_rfl) (by kernel_rfl) (by kernel_rfl) h437 (fun _ _ => rfl) ?_)
              intro A865 C866 w hS
              have hC : Core B [] [Ro.sl (Kd.int .i64) (some ad434) C246 l244, Ro.sl (Kd.int .i64) A10 C11 l9] _ := ⟨_, _, hS⟩
              refine ⟨hC, ?_⟩
              refine ED.one 16 6 #[true, true, true, true, true, true, true, true, true, true, true, true, true, true, true, true, true, false, false, false, false, false, false] (by kernel_rfl) (by kernel_rfl) (by kernel_rfl) (EO.append hS 66 66 3 8 3 (Kd.int .i64) A359 C360 x358 rfl (some ⟨g838, 0, none⟩) 1 l442 (Rd.own 1 3 rfl) l444 hl444 (fun A867 C868 => Ass.deep 94 96 kS96 A865 C866 l438 :: Ass.own 3 (Kd.int .i64) (some ⟨g838, 0, none⟩) 1 l442 :: Ass.box 91 g236 [.slice A355 x354.length C356, .slice A359 x358.length C360] :: Ass.own 3 (Kd.int .i64) A867 C868 l444 :: os) 34 (by kernel_rfl) (by kernel_rfl) (by kernel_rfl) (by kernel_rfl) h443 (fun _ _ => rfl) ?_)
              intro A867 C868 w hS
              have hC : Core B [] [Ro.sl (Kd.int .i64) (some ad434) C246 l244, Ro.sl (Kd.int .i64) A10 C11 l9] _ := ⟨_, _, hS⟩
              refine ⟨hC, ?_⟩
              refine ED.quick hN hF hC [17, 18] [3, 12, 13, 14, 19, 25, 34, 36] 4 [(3, .pointer (some ⟨g236, 0, none⟩)), (12, .slice (some ad434) l244.length C246), (13, .int .i64 (l244.length : Int)), (14, .int .i64 x362), (19, .pointer (some ⟨g236, 0, none⟩)), (25, .slice A865 l438.length C866), (34, .slice A867 l444.length C868), (36, .pointer (some ⟨g236, 0, none⟩))] #[true, true, true, true, true, true, true, true, true, true, true, true, true, true, true, true, true, true, true, false, false, false, false] (by kernel_rfl) (by kernel_rfl) ?_
              refine ED.one 19 3 #[true, true, true, true, true, true, true, true, true, true, true, true, true, true, true, true, true, true, true, true, false, false, false] (by kernel_rfl) (by kernel_rfl) (by kernel_rfl) (EO.storeBox (os' := Ass.deep 94 96 kS96 A865 C866 l438 :: Ass.own 3 (Kd.int .i64) (some ⟨g838, 0, none⟩) 1 l442 :: Ass.box 91 g236 [.slice A865 l438.length C866, .slice A359 x358.length C360] :: Ass.own 3 (Kd.int .i64) A867 C868 l444 :: os) hS 2 rfl 89 0 (.slice A865 l438.length C866) [.slice A865 l438.length C866, .slice A359 x358.length C360] (by kernel_rfl) (by kernel_rfl) (by kernel_rfl) (by kernel_rfl) (by kernel_rfl) (by kernel_rfl) rfl rfl ?_)
              intro w hS
              have hC : Core B [] [Ro.sl (Kd.int .i64) (some ad434) C246 l244, Ro.sl (Kd.int .i64) A10 C11 l9] _ := ⟨_, _, hS⟩
              refine ⟨hC, ?_⟩
              refine ED.quick hN hF hC [20, 21] [3, 12, 13, 14, 34, 38] 1 [(3, .pointer (some ⟨g236, 0, none⟩)), (12, .slice (some ad434) l244.length C246), (13, .int .i64 (l244.length : Int)), (14, .int .i64 x362), (34, .slice A867 l444.length C868), (38, .pointer (some ⟨g236, 1, none⟩))] #[true, true, true, true, true, true, true, true, true, true, true, true, true, true, true, true, true, true, true, true, true, true, false] (by kernel_rfl) (by kernel_rfl) ?_
              refine ED.one 22 0 #[true, true, true, true, true, true, true, true, true, true, true, true, true, true, true, true, true, true, true, true, true, true, true] (by kernel_rfl) (by kernel_rfl) (by kernel_rfl) (EO.storeBox (os' := Ass.deep 94 96 kS96 A865 C866 l438 :: Ass.own 3 (Kd.int .i64) (some ⟨g838, 0, none⟩) 1 l442 :: Ass.box 91 g236 [.slice A865 l438.length C866, .slice A867 l444.length C868] :: Ass.own 3 (Kd.int .i64) A867 C868 l444 :: os) hS 2 rfl 66 1 (.slice A867 l444.length C868) [.slice A865 l438.length C866, .slice A867 l444.length C868] (by kernel_rfl) (by kernel_rfl) (by kernel_rfl) (by kernel_rfl) (by kernel_rfl) (by kernel_rfl) rfl rfl ?_)
              intro w hS
              have hC : Core B [] [Ro.sl (Kd.int .i64) (some ad434) C246 l244, Ro.sl (Kd.int .i64) A10 C11 l9] _ := ⟨_, _, hS⟩
              refine ⟨hC, ?_⟩
              refine ED.done (by kernel_rfl) ?_
              refine EQ.to ?_
              refine EQ.keep [3, 12, 13, 14] [(3, .pointer (some ⟨g236, 0, none⟩)), (12, .slice (some ad434) l244.length C246), (13, .int .i64 (l244.length : Int)), (14, .int .i64 x362)] (by kernel_rfl) ?_
              exact fun a ha => ⟨(some ⟨g838, 0, none⟩), 1, A865, C866, A867, C868, ha, (hS.re [3, 3, 2, 3] [] rfl (sub_cons 0 rfl (sub_cons 1 rfl (sub_tail (sub_tail (sub_self))))))⟩
          · refine EO.Y (YO.loadBox hS 1 rfl 66 1 1 (.slice A359 x358.length C360) 29 (by kernel_rfl) (by kernel_rfl) (by kernel_rfl) (by kernel_rfl)) ?_
            have hC : Core B [] [Ro.sl (Kd.int .i64) (some ad434) C246 l244, Ro.sl (Kd.int .i64) A10 C11 l9] _ := ⟨_, _, hS⟩
            refine ⟨hC, ?_⟩
            refine ED.at' #[true, true, true, true, true, false, false, false, true, true, true, true, true, true, true, true, false, false, false, false, false, false, false] (by kernel_rfl) ?_
            refine ED.two 5 6 9 (by kernel_rfl) (by kernel_rfl) ?_ ?_
            · refine EO.Y (YO.loadBox hS 1 rfl 89 0 1 (.slice A355 x354.length C356) 23 (by kernel_rfl) (by kernel_rfl) (by kernel_rfl) (by kernel_rfl)) ?_
              have hC : Core B [] [Ro.sl (Kd.int .i64) (some ad434) C246 l244, Ro.sl (Kd.int .i64) A10 C11 l9] _ := ⟨_, _, hS⟩
              refine ⟨hC, ?_⟩
              refine ED.at' #[true, true, true, true, true, true, false, false, true, true, true, true, true, true, true, true, false, false, false, false, false, false, false] (by kernel_rfl) ?_
              refine ED.one 6 8 #[true, true, true, true, true, true, true, false, true, true, true, true, true, true, true, true, false, false, false, false, false, false, false] (by kernel_rfl) (by kernel_rfl) (by kernel_rfl) (EO.lit (xs := ([(none, ([] : List S96).length, 0)] : List Hdr)) hS Kd.hdr 94 89 1 #[(0, .slice none ([] : List S96).length 0)] [.slice none ([] : List S96).length 0] 24 (by kernel_rfl) (by kernel_rfl) (by kernel_rfl) (fun _ => (by kernel_rfl)) rfl (by kernel_rfl) (fun w G hr => ⟨[.slice none ([] : List S96).length 0], [], rfl, rfl, rfl⟩) ?_)
              intro g869 w hS
              have hS := St.nilO hS 96 kS96
              have hC : Core B [] [Ro.sl (Kd.int .i64) (some ad434) C246 l244, Ro.sl (Kd.int .i64) A10 C11 l9] _ := ⟨_, _, hS⟩
              refine ⟨hC, ?_⟩
              have hS := St.as (os' := Ass.deep 94 96 kS96 (some ⟨g869, 0, none⟩) 1 ([([] : List S96)] : List (List S96)) :: Ass.own 3 (Kd.int .i64) (some ⟨g838, 0, none⟩) 1 l442 :: Ass.box 91 g236 [.slice A355 x354.length C356, .slice A359 x358.length C360] :: Ass.deep 94 96 kS96 A355 C356 x354 :: Ass.own 3 (Kd.int .i64) A359 C360 x358 :: os) (St.fold (B := B) (os := _) (rs := _) (et := 94) (et' := 96) (K := kS96) (hs := [(none, ([] : List S96).length, 0)]) (xs := ([([] : List S96)] : List (List S96))) ⟨rfl, trivial⟩ (St.re hS [0, 1] [] rfl sub_self)) rfl
              refine ED.one 7 7 #[true, true, true, true, true, true, true, true, true, true, true, true, true, true, true, true, false, false, false, false, false, false, false] (by kernel_rfl) (by kernel_rfl) (by kernel_rfl) (EO.appendDeep hS 89 89 24 3 0 kS96 A355 C356 x354 rfl (some ⟨g869, 0, none⟩) 1 ([([] : List S96)] : List (List S96)) rfl l438 hl438 (fun A871 C872 => Ass.deep 94 96 kS96 A871 C872 l438 :: Ass.own 3 (Kd.int .i64) (some ⟨g838, 0, none⟩) 1 l442 :: Ass.box 91 g236 [.slice A355 x354.length C356, .slice A359 x358.length C360] :: Ass.own 3 (Kd.int .i64) A359 C360 x358 :: os) 25 (by kernel_rfl) (by kernel_rfl) (by kernel_rfl) (by kernel_rfl) h437 (fun _ _ => rfl) ?_)
              intro A871 C872 w hS
              have hC : Core B [] [Ro.sl (Kd.int .i64) (some ad434) C246 l244, Ro.sl (Kd.int .i64) A10 C11 l9] _ := ⟨_, _, hS⟩
              refine ⟨hC, ?_⟩
              refine ED.one 16 6 #[true, true, true, true, true, true, true, true, true, true, true, true, true, true, true, true, true, false, false, false, false, false, false] (by kernel_rfl) (by kernel_rfl) (by kernel_rfl) (EO.append hS 66 66 3 8 3 (Kd.int .i64) A359 C360 x358 rfl (some ⟨g838, 0, none⟩) 1 l442 (Rd.own 1 3 rfl) l444 hl444 (fun A873 C874 => Ass.deep 94 96 kS96 A871 C872 l438 :: Ass.own 3 (Kd.int .i64) (some ⟨g838, 0, none⟩) 1 l442 :: Ass.box 91 g236 [.slice A355 x354.length C356, .slice A359 x358.length C360] :: Ass.own 3 (Kd.int .i64) A873 C874 l444 :: os) 34 (by kernel_rfl) (by kernel_rfl) (by kernel_rfl) (by kernel_rfl) h443 (fun _ _ => rfl) ?_)
              intro A873 C874 w hS
              have hC : Core B [] [Ro.sl (Kd.int .i64) (some ad434) C246 l244, Ro.sl (Kd.int .i64) A10 C11 l9] _ := ⟨_, _, hS⟩
              refine ⟨hC, ?_⟩
              refine ED.quick hN hF hC [17, 18] [3, 12, 13, 14, 19, 25, 34, 36] 4 [(3, .pointer (some ⟨g236, 0, none⟩)), (12, .slice (some ad434) l244.length C246), (13, .int .i64 (l244.length : Int)), (14, .int .i64 x362), (19, .pointer (some ⟨g236, 0, none⟩)), (25, .slice A871 l438.length C872), (34, .slice A873 l444.length C874), (36, .pointer (some ⟨g236, 0, none⟩))] #[true, true, true, true, true, true, true, true, true, true, true, true, true, true, true, true, true, true, true, false, false, false, false] (by kernel_rfl) (by kernel_rfl) ?_
              refine ED.one 19 3 #[true, true, true, true, true, true, true, true, true, true, true, true, true, true, true, true, true, true, true, true, false, false, false] (by kernel_rfl) (by kernel_rfl) (by kernel_rfl) (EO.storeBox (os' := Ass.deep 94 96 kS96 A871 C872 l438 :: Ass.own 3 (Kd.int .i64) (some ⟨g838, 0, none⟩) 1 l442 :: Ass.box 91 g236 [.slice A871 l438.length C872, .slice A359 x358.length C360] :: Ass.own 3 (Kd.int .i64) A873 C874 l444 :: os) hS 2 rfl 89 0 (.slice A871 l438.length C872) [.slice A871 l438.length C872, .slice A359 x358.length C360] (by kernel_rfl) (by kernel_rfl) (by kernel_rfl) (by kernel_rfl) (by kernel_rfl) (by kernel_rfl) rfl rfl ?_)
              intro w hS
              have hC : Core B [] [Ro.sl (Kd.int .i64) (some ad434) C246 l244, Ro.sl (Kd.int .i64) A10 C11 l9] _ := ⟨_, _, hS⟩
              refine ⟨hC, ?_⟩
              refine ED.quick hN hF hC [20, 21] [3, 12, 13, 14, 34, 38] 1 [(3, .pointer (some ⟨g236, 0, none⟩)), (12, .slice (some ad434) l244.length C246), (13, .int .i64 (l244.length : Int)), (14, .int .i64 x362), (34, .slice A873 l444.length C874), (38, .pointer (some ⟨g236, 1, none⟩))] #[true, true, true, true, true, true, true, true, true, true, true, true, true, true, true, true, true, true, true, true, true, true, false] (by kernel_rfl) (by kernel_rfl) ?_
              refine ED.one 22 0 #[true, true, true, true, true, true, true, true, true, true, true, true, true, true, true, true, true, true, true, true, true, true, true] (by kernel_rfl) (by kernel_rfl) (by kernel_rfl) (EO.storeBox (os' := Ass.deep 94 96 kS96 A871 C872 l438 :: Ass.own 3 (Kd.int .i64) (some ⟨g838, 0, none⟩) 1 l442 :: Ass.box 91 g236 [.slice A871 l438.length C872, .slice A873 l444.length C874] :: Ass.own 3 (Kd.int .i64) A873 C874 l444 :: os) hS 2 rfl 66 1 (.slice A873 l444.length C874) [.slice A871 l438.length C872, .slice A873 l444.length C874] (by kernel_rfl) (by kernel_rfl) (by kernel_rfl) (by kernel_rfl) (by kernel_rfl) (by kernel_rfl) rfl rfl ?_)
              intro w hS
              have hC : Core B [] [Ro.sl (Kd.int .i64) (some ad434) C246 l244, Ro.sl (Kd.int .i64) A10 C11 l9] _ := ⟨_, _, hS⟩
              refine ⟨hC, ?_⟩
              refine ED.done (by kernel_rfl) ?_
              refine EQ.to ?_
              refine EQ.keep [3, 12, 13, 14] [(3, .pointer (some ⟨g236, 0, none⟩)), (12, .slice (some ad434) l244.length C246), (13, .int .i64 (l244.length : Int)), (14, .int .i64 x362)] (by kernel_rfl) ?_
              exact fun a ha => ⟨(some ⟨g838, 0, none⟩), 1, A871, C872, A873, C874, ha, (hS.re [3, 3, 2, 3] [] rfl (sub_cons 0 rfl (sub_cons 1 rfl (sub_tail (sub_tail (sub_self))))))⟩
            · refine EO.lit (xs := ([(none, ([] : List S96).length, 0)] : List Hdr)) hS Kd.hdr 94 89 1 #[(0, .slice none ([] : List S96).length 0)] [.slice none ([] : List S96).length 0] 24 (by kernel_rfl) (by kernel_rfl) (by kernel_rfl) (fun _ => (by kernel_rfl)) rfl (by kernel_rfl) (fun w G hr => ⟨[.slice none ([] : List S96).length 0], [], rfl, rfl, rfl⟩) ?_
              intro g875 w hS
              have hS := St.nilO hS 96 kS96
              have hC : Core B [] [Ro.sl (Kd.int .i64) (some ad434) C246 l244, Ro.sl (Kd.int .i64) A10 C11 l9] _ := ⟨_, _, hS⟩
              refine ⟨hC, ?_⟩
              refine ED.at' #[true, true, true, true, true, false, true, false, true, true, true, true, true, true, true, true, false, false, false, false, false, false, false] (by kernel_rfl) ?_
              refine ED.one 5 8 #[true, true, true, true, true, true, true, false, true, true, true, true, true, true, true, true, false, false, false, false, false, false, false] (by kernel_rfl) (by kernel_rfl) (by kernel_rfl) (EO.Y (YO.loadBox hS 3 rfl 89 0 1 (.slice A355 x354.length C356) 23 (by kernel_rfl) (by kernel_rfl) (by kernel_rfl) (by kernel_rfl)) ?_)
              have hC : Core B [] [Ro.sl (Kd.int .i64) (some ad434) C246 l244, Ro.sl (Kd.int .i64) A10 C11 l9] _ := ⟨_, _, hS⟩
              refine ⟨hC, ?_⟩
              have hS := St.as (os' := Ass.deep 94 96 kS96 (some ⟨g875, 0, none⟩) 1 ([([] : List S96)] : List (List S96)) :: Ass.own 3 (Kd.int .i64) (some ⟨g838, 0, none⟩) 1 l442 :: Ass.box 91 g236 [.slice A355 x354.length C356, .slice A359 x358.length C360] :: Ass.deep 94 96 kS96 A355 C356 x354 :: Ass.own 3 (Kd.int .i64) A359 C360 x358 :: os) (St.fold (B := B) (os := _) (rs := _) (et := 94) (et' := 96) (K := kS96) (hs := [(none, ([] : List S96).length, 0)]) (xs := ([([] : List S96)] : List (List S96))) ⟨rfl, trivial⟩ (St.re hS [0, 1] [] rfl sub_self)) rfl
              refine ED.one 7 7 #[true, true, true, true, true, true, true, true, true, true, true, true, true, true, true, true, false, false, false, false, false, false, false] (by kernel_rfl) (by kernel_rfl) (by kernel_rfl) (EO.appendDeep hS 89 89 24 3 0 kS96 A355 C356 x354 rfl (some ⟨g875, 0, none⟩) 1 ([([] : List S96)] : List (List S96)) rfl l438 hl438 (fun A877 C878 => Ass.deep 94 96 kS96 A877 C878 l438 :: Ass.own 3 (Kd.int .i64) (some ⟨g838, 0, none⟩) 1 l442 :: Ass.box 91 g236 [.slice A355 x354.length C356, .slice A359 x358.length C360] :: Ass.own 3 (Kd.int .i64) A359 C360 x358 :: os) 25 (by kernel_rfl) (by kernel_rfl) (by kernel_rfl) (by kernel_rfl) h437 (fun _ _ => rfl) ?_)
              intro A877 C878 w hS
              have hC : Core B [] [Ro.sl (Kd.int .i64) (some ad434) C246 l244, Ro.sl (Kd.int .i64) A10 C11 l9] _ := ⟨_, _, hS⟩
              refine ⟨hC, ?_⟩
              refine ED.one 16 6 #[true, true, true, true, true, true, true, true, true, true, true, true, true, true, true, true, true, false, false, false, false, false, false] (by kernel_rfl) (by kernel_rfl) (by kernel_rfl) (EO.append hS 66 66 3 8 3 (Kd.int .i64) A359 C360 x358 rfl (some ⟨g838, 0, none⟩) 1 l442 (Rd.own 1 3 rfl) l444 hl444 (fun A879 C880 => Ass.deep 94 96 kS96 A877 C878 l438 :: Ass.own 3 (Kd.int .i64) (some ⟨g838, 0, none⟩) 1 l442 :: Ass.box 91 g236 [.slice A355 x354.length C356, .slice A359 x358.length C360] :: Ass.own 3 (Kd.int .i64) A879 C880 l444 :: os) 34 (by kernel_rfl) (by kernel_rfl) (by kernel_rfl) (by kernel_rfl) h443 (fun _ _ => rfl) ?_)
              intro A879 C880 w hS
              have hC : Core B [] [Ro.sl (Kd.int .i64) (some ad434) C246 l244, Ro.sl (Kd.int .i64) A10 C11 l9] _ := ⟨_, _, hS⟩
              refine ⟨hC, ?_⟩
              refine ED.quick hN hF hC [17, 18] [3, 12, 13, 14, 19, 25, 34, 36] 4 [(3, .pointer (some ⟨g236, 0, none⟩)), (12, .slice (some ad434) l244.length C246), (13, .int .i64 (l244.length : Int)), (14, .int .i64 x362), (19, .pointer (some ⟨g236, 0, none⟩)), (25, .slice A877 l438.length C878), (34, .slice A879 l444.length C880), (36, .pointer (some ⟨g236, 0, none⟩))] #[true, true, true, true, true, true, true, true, true, true, true, true, true, true, true, true, true, true, true, false, false, false, false] (by kernel_rfl) (by kernel_rfl) ?_
              refine ED.one 19 3 #[true, true, true, true, true, true, true, true, true, true, true, true, true, true, true, true, true, true, true, true, false, false, false] (by kernel_rfl) (by kernel_rfl) (by kernel_rfl) (EO.storeBox (os' := Ass.deep 94 96 kS96 A877 C878 l438 :: Ass.own 3 (Kd.int .i64) (some ⟨g838, 0, none⟩) 1 l442 :: Ass.box 91 g236 [.slice A877 l438.length C878, .slice A359 x358.length C360] :: Ass.own 3 (Kd.int .i64) A879 C880 l444 :: os) hS 2 rfl 89 0 (.slice A877 l438.length C878) [.slice A877 l438.length C878, .slice A359 x358.length C360] (by kernel_rfl) (by kernel_rfl) (by kernel_rfl) (by kernel_rfl) (by kernel_rfl) (by kernel_rfl) rfl rfl ?_)
              intro w hS
              have hC : Core B [] [Ro.sl (Kd.int .i64) (some ad434) C246 l244, Ro.sl (Kd.int .i64) A10 C11 l9] _ := ⟨_, _, hS⟩
              refine ⟨hC, ?_⟩
              refine ED.quick hN hF hC [20, 21] [3, 12, 13, 14, 34, 38] 1 [(3, .pointer (some ⟨g236, 0, none⟩)), (12, .slice (some ad434) l244.length C246), (13, .int .i64 (l244.length : Int)), (14, .int .i64 x362), (34, .slice A879 l444.length C880), (38, .pointer (some ⟨g236, 1, none⟩))] #[true, true, true, true, true, true, true, true, true, true, true, true, true, true, true, true, true, true, true, true, true, true, false] (by kernel_rfl) (by kernel_rfl) ?_
              refine ED.one 22 0 #[true, true, true, true, true, true, true, true, true, true, true, true, true, true, true, true, true, true, true, true, true, true, true] (by kernel_rfl) (by kernel_rfl) (by kernel_rfl) (EO.storeBox (os' := Ass.deep 94 96 kS96 A877 C878 l438 :: Ass.own 3 (Kd.int .i64) (some ⟨g838, 0, none⟩) 1 l442 :: Ass.box 91 g236 [.slice A877 l438.length C878, .slice A879 l444.length C880] :: Ass.own 3 (Kd.int .i64) A879 C880 l444 :: os) hS 2 rfl 66 1 (.slice A879 l444.length C880) [.slice A877 l438.length C878, .slice A879 l444.length C880] (by kernel_rfl) (by kernel_rfl) (by kernel_rfl) (by kernel_rfl) (by kernel_rfl) (by kernel_rfl) rfl rfl ?_)
              intro w hS
              have hC : Core B [] [Ro.sl (Kd.int .i64) (some ad434) C246 l244, Ro.sl (Kd.int .i64) A10 C11 l9] _ := ⟨_, _, hS⟩
              refine ⟨hC, ?_⟩
              refine ED.done (by kernel_rfl) ?_
              refine EQ.to ?_
              refine EQ.keep [3, 12, 13, 14] [(3, .pointer (some ⟨g236, 0, none⟩)), (12, .slice (some ad434) l244.length C246), (13, .int .i64 (l244.length : Int)), (14, .int .i64 x362)] (by kernel_rfl) ?_
              exact fun a ha => ⟨(some ⟨g838, 0, none⟩), 1, A877, C878, A879, C880, ha, (hS.re [3, 3, 2, 3] [] rfl (sub_cons 0 rfl (sub_cons 1 rfl (sub_tail (sub_tail (sub_self))))))⟩
      · obtain ⟨A661, C662, A663, C664, A665, C666, ha, hS⟩ := hI
        refine EQ.at ?_ a ha
        clear ha a
        refine EQ.pop ?_
        refine EQ.code ?_
        refine EW.region (id := 6) (ops := Cd11.r.r.l.r.l.l.r.r.r.ops) (by kernel_rfl) ?_
        refine EL.quick 2 [3, 12, 13, 14] [(3, .pointer (some ⟨g236, 0, none⟩)), (12, .slice (some ad434) l244.length C246), (13, .int .i64 (l244.length : Int)), (14, .int .i64 (IntKind.i64.wrap (x362 + 1)))] (by kernel_rfl) ?_
        refine EL.done (by kernel_rfl) ?_
        refine EQ.to ?_
        refine EQ.keep [3, 12, 13, 14] [(3, .pointer (some ⟨g236, 0, none⟩)), (12, .slice (some ad434) l244.length C246), (13, .int .i64 (l244.length : Int)), (14, .int .i64 (IntKind.i64.wrap (x362 + 1)))] (by kernel_rfl) ?_
        exact fun a ha => ⟨n, Nat.lt_succ_self n, l438, l444, IntKind.i64.wrap (x362 + 1), A663, C664, A665, C666, ha, (hS.re [3, 2, 3] [3] rfl (sub_cons 0 rfl (sub_cons 1 rfl (sub_tail (sub_tail (sub_self)))))), H⟩
    · rw [if_neg h414] at H
      refine EW.exit (id := 0) (by kernel_rfl) ?_
      refine EQ.exitCode ?_
      refine EQ.exitTo ?_
      refine EQ.exitHere ?_
      refine EQ.code ?_
      refine EW.seq (x := Cd11.r.r.r.l) (y := Cd11.r.r.r.r) (by kernel_rfl) ?_
      refine EW.region (id := 7) (ops := Cd11.r.r.r.l.ops) (by kernel_rfl) ?_
      refine EL.quick 2 [2] [(2, .pointer (some ⟨g236, 0, none⟩))] (by kernel_rfl) ?_
      refine EL.done (by kernel_rfl) ?_
      refine EQ.code ?_
      refine EW.ret (by kernel_rfl) ?_
      simp only [Option.some.injEq, Prod.mk.injEq] at H
      obtain ⟨rfl, rfl⟩ := H
      exact EQ.leave (.pointer (some ⟨g236, 0, none⟩)) (by kernel_rfl) ⟨_, rfl, g236, A355, C356, A359, C360, rfl, (hS.re [2, 2, 2] [] rfl (sub_tail (sub_self)))⟩

end Go.Proofs.Ytipaaapbapijhaa.G
