import Derived.Test.YtjfnejcanlkknaaProg
import Derived.Test.YtjfnejcanlkknaaFwEq
import Derived.Test.YtjfnejcanlkknaaFwOpen
import Derived.Test.YtjfnejcanlkknaaG0
namespace Go.Proofs.Ytjfnejcanlkknaa.G
open Go Go.Fw Go.RowKit Go.Proofs
set_option linter.unusedVariables false
set_option linter.unusedSimpArgs false

/-! ### confidant/confidantref12.SameFutures: function 56 -/
def confidantref12_SameFutures.l1 (K : Nat) (l7983 : List (List S75)) (x9993 : Int) (l7986 : List (List S75)) (j10836 : Option Bool) : Nat → Int → Option Bool
  | 0, _ => none
  | n + 1, x10929 => if x10929 < ((l7983.getD x9993.toNat []).length : Int) then (if 0 ≤ x10929 then (if x10929 < ((l7986.getD x9993.toNat []).length : Int) then (if (((((l7983.getD x9993.toNat []).getD x10929.toNat zS75).f0) == (((l7986.getD x9993.toNat []).getD x10929.toNat zS75).f0)) && (((((l7983.getD x9993.toNat []).getD x10929.toNat zS75).f1) == (((l7986.getD x9993.toNat []).getD x10929.toNat zS75).f1)) && (((((l7983.getD x9993.toNat []).getD x10929.toNat zS75).f2) == (((l7986.getD x9993.toNat []).getD x10929.toNat zS75).f2)) && (((((l7983.getD x9993.toNat []).getD x10929.toNat zS75).f3) == (((l7986.getD x9993.toNat []).getD x10929.toNat zS75).f3)) && true)))) = true then (confidantref12_SameFutures.l1 K l7983 x9993 l7986 j10836 n (IntKind.i64.wrap (x10929 + 1))) else (some false)) else none) else none) else (j10836)
def confidantref12_SameFutures.l0 (K : Nat) (l7983 : List (List S75)) (l7986 : List (List S75)) : Nat → Int → Option Bool
  | 0, _ => none
  | n + 1, x9993 => if x9993 < (l7983.length : Int) then (lt (confidantref12_SameFutures.l0 K l7983 l7986 n (IntKind.i64.wrap (x9993 + 1))) fun j10836 => (if 0 ≤ x9993 then (if x9993 < (l7986.length : Int) then (if ((l7983.getD x9993.toNat []).length : Int) = ((l7986.getD x9993.toNat []).length : Int) then (confidantref12_SameFutures.l1 K l7983 x9993 l7986 j10836 K 0) else (some false)) else none) else none)) else (some true)
def confidantref12_SameFutures.f (K : Nat) (l7983 : List (List S75)) (l7986 : List (List S75)) : Option Bool := if (l7983.length : Int) = (l7986.length : Int) then (confidantref12_SameFutures.l0 K l7983 l7986 K 0) else (some false)
set_option maxRecDepth 100000 in
theorem confidantref12_SameFutures.calls {K : Nat} {l7983 : List (List S75)} {l7986 : List (List S75)} {A7984 : Option Addr} {C7985 : Nat} {A7987 : Option Addr} {C7988 : Nat} {x9496 : Bool} {B w : World} {os : List Ass} {rs : List Ro} (H : confidantref12_SameFutures.f K l7983 l7986 = some x9496) (hS : St B w (os) (Ro.sl (Kd.slice kS75) A7984 C7985 l7983 :: Ro.sl (Kd.slice kS75) A7987 C7988 l7986 :: rs)) :
    Calls Try.prog 56 [.slice A7984 l7983.length C7985, .slice A7987 l7986.length C7988].toArray w (fun en w' => ∃ v, en = .returned v ∧ v = .bool (x9496) ∧ St B w' (os) (Ro.sl (Kd.slice kS75) A7984 C7985 l7983 :: Ro.sl (Kd.slice kS75) A7987 C7988 l7986 :: rs)) := by
  unfold confidantref12_SameFutures.f at H
  refine calls_of_EW (args := [.slice A7984 l7983.length C7985, .slice A7987 l7986.length C7988]) (c := Cd56) 53 Try.func56 (by kernel_rfl) (by kernel_rfl) (by kernel_rfl) ?_
  refine EW.seq (x := Cd56.l) (y := Cd56.r) (by kernel_rfl) ?_
  refine EW.region (id := 0) (ops := Cd56.l.ops) (by kernel_rfl) ?_
  refine EL.quick 1 [0, 1] [(0, .slice A7984 l7983.length C7985), (1, .slice A7987 l7986.length C7988)] (by kernel_rfl) ?_
  refine EL.done (by kernel_rfl) ?_
  refine EQ.code ?_
  refine EW.seq (x := Cd56.r.l) (y := Cd56.r.r) (by kernel_rfl) ?_
  refine EW.seq (x := Cd56.r.l.l) (y := Cd56.r.l.r) (by kernel_rfl) ?_
  refine EW.region (id := 1) (ops := Cd56.r.l.l.ops) (by kernel_rfl) ?_
  refine EL.quick 5 [0, 1, 11] [(0, .slice A7984 l7983.length C7985), (1, .slice A7987 l7986.length C7988), (11, .bool (!(decide ((l7983.length : Int) = (l7986.length : Int)))))] (by kernel_rfl) ?_
  refine EL.done (by kernel_rfl) ?_
  refine EQ.code ?_
  refine EW.condQ (b := !(decide ((l7983.length : Int) = (l7986.length : Int)))) (o := (.tmp 11)) (x := Cd56.r.l.r.l) (y := Cd56.r.l.r.r) ((l7983.length : Int) = (l7986.length : Int)) (false) (by kernel_rfl) (by kernel_rfl) ⟨fun h => (by rw [decide_eq_true h] <;> rfl), fun h => (by rw [decide_eq_false h] <;> rfl)⟩ (fun h9498 => ?_) (fun h9498 => ?_)
  · rw [if_pos h9498] at H
    refine EW.skip (by kernel_rfl) ?_
    refine EQ.code ?_
    refine EW.seq (x := Cd56.r.r.l) (y := Cd56.r.r.r) (by kernel_rfl) ?_
    refine EW.seq (x := Cd56.r.r.l.l) (y := Cd56.r.r.l.r) (by kernel_rfl) ?_
    refine EW.region (id := 3) (ops := Cd56.r.r.l.l.ops) (by kernel_rfl) ?_
    refine EL.quick 1 [0, 1, 5] [(0, .slice A7984 l7983.length C7985), (1, .slice A7987 l7986.length C7988), (5, .int .i64 0)] (by kernel_rfl) ?_
    refine EL.done (by kernel_rfl) ?_
    refine EQ.code ?_
    refine EW.block (x := Cd56.r.r.l.r.l) (id := 0) (by kernel_rfl) ?_
    refine EW.loop (x := Cd56.r.r.l.r.l.l) (fun n a w => ∃ x9993 : Int, Sat 53 [(0, .slice A7984 l7983.length C7985), (1, .slice A7987 l7986.length C7988), (5, .int .i64 x9993)] a ∧ St B w (os) (Ro.sl (Kd.slice kS75) A7984 C7985 l7983 :: Ro.sl (Kd.slice kS75) A7987 C7988 l7986 :: rs) ∧ confidantref12_SameFutures.l0 K l7983 l7986 n x9993 = some x9496) K (by kernel_rfl) ?_ (fun n a w hI => ?_)
    · refine EQ.keep [0, 1, 5] [(0, .slice A7984 l7983.length C7985), (1, .slice A7987 l7986.length C7988), (5, .int .i64 0)] (by kernel_rfl) ?_
      exact fun a ha => ⟨0, ha, (hS.re [] [] rfl (sub_cons 0 rfl (sub_cons 1 rfl (sub_tail (sub_tail (sub_self)))))), H⟩
    · obtain ⟨x9993, ha, hS, H⟩ := hI
      obtain _ | n := n
      · simp [confidantref12_SameFutures.l0] at H
      rw [confidantref12_SameFutures.l0.eq_2] at H
      refine EW.at ?_ a ha
      clear ha a
      refine EW.seq (x := Cd56.r.r.l.r.l.l.l) (y := Cd56.r.r.l.r.l.l.r) (by kernel_rfl) ?_
      refine EW.seq (x := Cd56.r.r.l.r.l.l.l.l) (y := Cd56.r.r.l.r.l.l.l.r) (by kernel_rfl) ?_
      refine EW.region (id := 4) (ops := Cd56.r.r.l.r.l.l.l.l.ops) (by kernel_rfl) ?_
      refine EL.quick 4 [0, 1, 5, 15] [(0, .slice A7984 l7983.length C7985), (1, .slice A7987 l7986.length C7988), (5, .int .i64 x9993), (15, .bool (decide (x9993 < (l7983.length : Int))))] (by kernel_rfl) ?_
      refine EL.done (by kernel_rfl) ?_
      refine EQ.code ?_
      refine EW.condP (o := (.tmp 15)) (x := Cd56.r.r.l.r.l.l.l.r.l) (y := Cd56.r.r.l.r.l.l.l.r.r) (x9993 < (l7983.length : Int)) (by kernel_rfl) (by kernel_rfl) (fun h10501 => ?_) (fun h10501 => ?_)
      · rw [if_pos h10501] at H
        refine EW.skip (by kernel_rfl) ?_
        refine EQ.code ?_
        obtain ⟨j10836, hj10836, H⟩ := lt_out H
        refine EW.cut (x := Cd56.r.r.l.r.l.l.r.l) (y := Cd56.r.r.l.r.l.l.r.r) (fun a w => Sat 53 [(0, .slice A7984 l7983.length C7985), (1, .slice A7987 l7986.length C7988), (5, .int .i64 x9993)] a ∧ St B w (os) (Ro.sl (Kd.slice kS75) A7984 C7985 l7983 :: Ro.sl (Kd.slice kS75) A7987 C7988 l7986 :: rs) ∧ j10836 = some x9496) (by kernel_rfl) ?_ (fun a w hI => ?_)
        · refine EW.block (x := Cd56.r.r.l.r.l.l.r.l.l) (id := 1) (by kernel_rfl) ?_
          refine EW.seq (x := Cd56.r.r.l.r.l.l.r.l.l.l) (y := Cd56.r.r.l.r.l.l.r.l.l.r) (by kernel_rfl) ?_
          refine EW.seq (x := Cd56.r.r.l.r.l.l.r.l.l.l.l) (y := Cd56.r.r.l.r.l.l.r.l.l.l.r) (by kernel_rfl) ?_
          obtain ⟨h10862, H⟩ := ite_in H
          obtain ⟨ad10863, rfl⟩ := St.rd_some hS (Rd.ro 0 rfl) h10862 h10501
          obtain ⟨h10866, H⟩ := ite_in H
          obtain ⟨ad10867, rfl⟩ := St.rd_some hS (Rd.ro 1 rfl) h10862 h10866
          refine EW.meet (id := 6) (ops := Cd56.r.r.l.r.l.l.r.l.l.l.l.ops) (fun a w => Sat 53 [(0, .slice (some ad10863) l7983.length C7985), (1, .slice (some ad10867) l7986.length C7988), (5, .int .i64 x9993), (28, .bool (!(decide (((l7983.getD x9993.toNat []).length : Int) = ((l7986.getD x9993.toNat []).length : Int)))))] a ∧ St B w (os) (Ro.sl (Kd.slice kS75) (some ad10863) C7985 l7983 :: Ro.sl (Kd.slice kS75) (some ad10867) C7988 l7986 :: rs)) (by kernel_rfl) ?_ (fun a w hI => ?_)
          · have hS := hS.drew
            refine EW.draw (B := B) (id := 6) (ops := Cd56.r.r.l.r.l.l.r.l.l.l.l.ops) [] [Ro.sl (Kd.slice kS75) (some ad10863) C7985 l7983, Ro.sl (Kd.slice kS75) (some ad10867) C7988 l7986] (by kernel_rfl) (by kernel_rfl) ?_
            have hN : Region.noSelect Cd56.r.r.l.r.l.l.r.l.l.l.l.ops = true := (by kernel_rfl)
            have hF : freeAll Cd56.r.r.l.r.l.l.r.l.l.l.l.ops = true := (by kernel_rfl)
            have hC : Core B [] [Ro.sl (Kd.slice kS75) (some ad10863) C7985 l7983, Ro.sl (Kd.slice kS75) (some ad10867) C7988 l7986] _ := ⟨_, _, hS⟩
            refine ED.quick hN hF hC [0, 1, 5, 6] [0, 1, 5, 18, 19, 23, 24] 7 [(0, .slice (some ad10863) l7983.length C7985), (1, .slice (some ad10867) l7986.length C7988), (5, .int .i64 x9993), (18, .slice (some ad10863) l7983.length C7985), (19, .int .i64 x9993), (23, .slice (some ad10867) l7986.length C7988), (24, .int .i64 x9993)] #[true, true, false, false, false, true, true, false, false, false, false] (by kernel_rfl) (by kernel_rfl) ?_
            refine ED.Y hN hF hC 2 6 #[true, true, true, false, false, true, true, false, false, false, false] (by kernel_rfl) (by kernel_rfl) rfl (fun _ _ _ hS => YO.idx 80 1 ad10863 l7983.length C7985 .i64 x9993 20 (by kernel_rfl) (by kernel_rfl) (by kernel_rfl) (by kernel_rfl) h10862 h10501) ?_
            refine ED.Y hN hF hC 7 5 #[true, true, true, false, false, true, true, true, false, false, false] (by kernel_rfl) (by kernel_rfl) rfl (fun _ _ _ hS => YO.idx 80 1 ad10867 l7986.length C7988 .i64 x9993 25 (by kernel_rfl) (by kernel_rfl) (by kernel_rfl) (by kernel_rfl) h10862 h10866) ?_
            refine ED.two 3 8 4 (by kernel_rfl) (by kernel_rfl) ?_ ?_
            · refine EO.loadSl hS kS75 ad10863 C7985 l7983 (Rd.ro 0 rfl) x9993 h10862 h10501 87 21 (by kernel_rfl) (by kernel_rfl) (by kernel_rfl) (by kernel_rfl) ?_
              intro A10878 C10879 hS
              have hC : Core B [] [Ro.sl (Kd.slice kS75) (some ad10863) C7985 l7983, Ro.sl (Kd.slice kS75) (some ad10867) C7988 l7986] _ := ⟨_, _, hS.re [] [] rfl (sub_cons 1 rfl (sub_cons 2 rfl sub_self))⟩
              refine ⟨hC, ?_⟩
              refine ED.at' #[true, true, true, true, false, true, true, true, false, false, false] (by kernel_rfl) ?_
              refine ED.quick hN hF hC [4] [0, 1, 5, 22, 25] 3 [(0, .slice (some ad10863) l7983.length C7985), (1, .slice (some ad10867) l7986.length C7988), (5, .int .i64 x9993), (22, .int .i64 ((l7983.getD x9993.toNat []).length : Int)), (25, .pointer (some ((ad10867.add (x9993.toNat * 1)).add 0)))] #[true, true, true, true, true, true, true, true, false, false, false] (by kernel_rfl) (by kernel_rfl) ?_
              refine ED.one 8 2 #[true, true, true, true, true, true, true, true, true, false, false] (by kernel_rfl) (by kernel_rfl) (by kernel_rfl) (EO.loadSl hS kS75 ad10867 C7988 l7986 (Rd.ro 2 rfl) x9993 h10862 h10866 87 26 (by kernel_rfl) (by kernel_rfl) (by kernel_rfl) (by kernel_rfl) ?_)
              intro A10880 C10881 hS
              have hC : Core B [] [Ro.sl (Kd.slice kS75) (some ad10863) C7985 l7983, Ro.sl (Kd.slice kS75) (some ad10867) C7988 l7986] _ := ⟨_, _, hS.re [] [] rfl (sub_cons 2 rfl (sub_cons 3 rfl sub_self))⟩
              refine ⟨hC, ?_⟩
              refine ED.quick hN hF hC [9, 10] [0, 1, 5, 28] 0 [(0, .slice (some ad10863) l7983.length C7985), (1, .slice (some ad10867) l7986.length C7988), (5, .int .i64 x9993), (28, .bool (!(decide (((l7983.getD x9993.toNat []).length : Int) = ((l7986.getD x9993.toNat []).length : Int)))))] #[true, true, true, true, true, true, true, true, true, true, true] (by kernel_rfl) (by kernel_rfl) ?_
              refine ED.done (by kernel_rfl) ?_
              refine EQ.to ?_
              refine EQ.keep [0, 1, 5, 28] [(0, .slice (some ad10863) l7983.length C7985), (1, .slice (some ad10867) l7986.length C7988), (5, .int .i64 x9993), (28, .bool (!(decide (((l7983.getD x9993.toNat []).length : Int) = ((l7986.getD x9993.toNat []).length : Int)))))] (by kernel_rfl) ?_
              exact fun a ha => ⟨ha, (hS.re [] [] rfl (sub_cons 2 rfl (sub_cons 3 rfl (sub_tail (sub_tail (sub_tail (sub_tail (sub_self))))))))⟩
            · refine EO.loadSl hS kS75 ad10867 C7988 l7986 (Rd.ro 1 rfl) x9993 h10862 h10866 87 26 (by kernel_rfl) (by kernel_rfl) (by kernel_rfl) (by kernel_rfl) ?_
              intro A10882 C10883 hS
              have hC : Core B [] [Ro.sl (Kd.slice kS75) (some ad10863) C7985 l7983, Ro.sl (Kd.slice kS75) (some ad10867) C7988 l7986] _ := ⟨_, _, hS.re [] [] rfl (sub_cons 1 rfl (sub_cons 2 rfl sub_self))⟩
              refine ⟨hC, ?_⟩
              refine ED.at' #[true, true, true, false, false, true, true, true, true, false, false] (by kernel_rfl) ?_
              refine ED.quick hN hF hC [9] [0, 1, 5, 20, 27] 3 [(0, .slice (some ad10863) l7983.length C7985), (1, .slice (some ad10867) l7986.length C7988), (5, .int .i64 x9993), (20, .pointer (some ((ad10863.add (x9993.toNat * 1)).add 0))), (27, .int .i64 ((l7986.getD x9993.toNat []).length : Int))] #[true, true, true, false, false, true, true, true, true, true, false] (by kernel_rfl) (by kernel_rfl) ?_
              refine ED.one 3 2 #[true, true, true, true, false, true, true, true, true, true, false] (by kernel_rfl) (by kernel_rfl) (by kernel_rfl) (EO.loadSl hS kS75 ad10863 C7985 l7983 (Rd.ro 1 rfl) x9993 h10862 h10501 87 21 (by kernel_rfl) (by kernel_rfl) (by kernel_rfl) (by kernel_rfl) ?_)
              intro A10884 C10885 hS
              have hC : Core B [] [Ro.sl (Kd.slice kS75) (some ad10863) C7985 l7983, Ro.sl (Kd.slice kS75) (some ad10867) C7988 l7986] _ := ⟨_, _, hS.re [] [] rfl (sub_cons 2 rfl (sub_cons 3 rfl sub_self))⟩
              refine ⟨hC, ?_⟩
              refine ED.quick hN hF hC [4, 10] [0, 1, 5, 28] 0 [(0, .slice (some ad10863) l7983.length C7985), (1, .slice (some ad10867) l7986.length C7988), (5, .int .i64 x9993), (28, .bool (!(decide (((l7983.getD x9993.toNat []).length : Int) = ((l7986.getD x9993.toNat []).length : Int)))))] #[true, true, true, true, true, true, true, true, true, true, true] (by kernel_rfl) (by kernel_rfl) ?_
              refine ED.done (by kernel_rfl) ?_
              refine EQ.to ?_
              refine EQ.keep [0, 1, 5, 28] [(0, .slice (some ad10863) l7983.length C7985), (1, .slice (some ad10867) l7986.length C7988), (5, .int .i64 x9993), (28, .bool (!(decide (((l7983.getD x9993.toNat []).length : Int) = ((l7986.getD x9993.toNat []).length : Int)))))] (by kernel_rfl) ?_
              exact fun a ha => ⟨ha, (hS.re [] [] rfl (sub_cons 2 rfl (sub_cons 3 rfl (sub_tail (sub_tail (sub_tail (sub_tail (sub_self))))))))⟩
          · obtain ⟨ha, hS⟩ := hI
            refine EQ.at ?_ a ha
            clear ha a
            refine EQ.code ?_
            refine EW.condQ (b := !(decide (((l7983.getD x9993.toNat []).length : Int) = ((l7986.getD x9993.toNat []).length : Int)))) (o := (.tmp 28)) (x := Cd56.r.r.l.r.l.l.r.l.l.l.r.l) (y := Cd56.r.r.l.r.l.l.r.l.l.l.r.r) (((l7983.getD x9993.toNat []).length : Int) = ((l7986.getD x9993.toNat []).length : Int)) (false) (by kernel_rfl) (by kernel_rfl) ⟨fun h => (by rw [decide_eq_true h] <;> rfl), fun h => (by rw [decide_eq_false h] <;> rfl)⟩ (fun h10886 => ?_) (fun h10886 => ?_)
            · rw [if_pos h10886] at H
              refine EW.skip (by kernel_rfl) ?_
              refine EQ.code ?_
              refine EW.seq (x := Cd56.r.r.l.r.l.l.r.l.l.r.l) (y := Cd56.r.r.l.r.l.l.r.l.l.r.r) (by kernel_rfl) ?_
              refine EW.region (id := 8) (ops := Cd56.r.r.l.r.l.l.r.l.l.r.l.ops) (by kernel_rfl) ?_
              refine EL.quick 1 [0, 1, 5, 6] [(0, .slice (some ad10863) l7983.length C7985), (1, .slice (some ad10867) l7986.length C7988), (5, .int .i64 x9993), (6, .int .i64 0)] (by kernel_rfl) ?_
              refine EL.done (by kernel_rfl) ?_
              refine EQ.code ?_
              refine EW.block (x := Cd56.r.r.l.r.l.l.r.l.l.r.r.l) (id := 2) (by kernel_rfl) ?_
              refine EW.loop (x := Cd56.r.r.l.r.l.l.r.l.l.r.r.l.l) (fun n a w => ∃ x10929 : Int, Sat 53 [(0, .slice (some ad10863) l7983.length C7985), (1, .slice (some ad10867) l7986.length C7988), (5, .int .i64 x9993), (6, .int .i64 x10929)] a ∧ St B w (os) (Ro.sl (Kd.slice kS75) (some ad10863) C7985 l7983 :: Ro.sl (Kd.slice kS75) (some ad10867) C7988 l7986 :: rs) ∧ confidantref12_SameFutures.l1 K l7983 x9993 l7986 j10836 n x10929 = some x9496) K (by kernel_rfl) ?_ (fun n a w hI => ?_)
              · refine EQ.keep [0, 1, 5, 6] [(0, .slice (some ad10863) l7983.length C7985), (1, .slice (some ad10867) l7986.length C7988), (5, .int .i64 x9993), (6, .int .i64 0)] (by kernel_rfl) ?_
                exact fun a ha => ⟨0, ha, (hS.re [] [] rfl (sub_cons 0 rfl (sub_cons 1 rfl (sub_tail (sub_tail (sub_self)))))), H⟩
              · obtain ⟨x10929, ha, hS, H⟩ := hI
                obtain _ | n := n
                · simp [confidantref12_SameFutures.l1] at H
                rw [confidantref12_SameFutures.l1.eq_2] at H
                refine EW.at ?_ a ha
                clear ha a
                refine EW.seq (x := Cd56.r.r.l.r.l.l.r.l.l.r.r.l.l.l) (y := Cd56.r.r.l.r.l.l.r.l.l.r.r.l.l.r) (by kernel_rfl) ?_
                refine EW.seq (x := Cd56.r.r.l.r.l.l.r.l.l.r.r.l.l.l.l) (y := Cd56.r.r.l.r.l.l.r.l.l.r.r.l.l.l.r) (by kernel_rfl) ?_
                refine EW.region (id := 9) (ops := Cd56.r.r.l.r.l.l.r.l.l.r.r.l.l.l.l.ops) (by kernel_rfl) ?_
                refine EL.quick 3 [0, 1, 5, 6, 29, 30, 31] [(0, .slice (some ad10863) l7983.length C7985), (1, .slice (some ad10867) l7986.length C7988), (5, .int .i64 x9993), (6, .int .i64 x10929), (29, .int .i64 x10929), (30, .slice (some ad10863) l7983.length C7985), (31, .int .i64 x9993)] (by kernel_rfl) ?_
                refine EL.of (EO.Y (YO.idx 80 1 ad10863 l7983.length C7985 .i64 x9993 32 (by kernel_rfl) (by kernel_rfl) (by kernel_rfl) (by kernel_rfl) h10862 h10501) ?_)
                refine EL.of (EO.loadSl hS kS75 ad10863 C7985 l7983 (Rd.ro 0 rfl) x9993 h10862 h10501 87 33 (by kernel_rfl) (by kernel_rfl) (by kernel_rfl) (by kernel_rfl) ?_)
                intro A10983 C10984 hS
                refine EL.quick 2 [0, 1, 5, 6, 35] [(0, .slice (some ad10863) l7983.length C7985), (1, .slice (some ad10867) l7986.length C7988), (5, .int .i64 x9993), (6, .int .i64 x10929), (35, .bool (decide (x10929 < ((l7983.getD x9993.toNat []).length : Int))))] (by kernel_rfl) ?_
                refine EL.done (by kernel_rfl) ?_
                refine EQ.code ?_
                refine EW.condP (o := (.tmp 35)) (x := Cd56.r.r.l.r.l.l.r.l.l.r.r.l.l.l.r.l) (y := Cd56.r.r.l.r.l.l.r.l.l.r.r.l.l.l.r.r) (x10929 < ((l7983.getD x9993.toNat []).length : Int)) (by kernel_rfl) (by kernel_rfl) (fun h10985 => ?_) (fun h10985 => ?_)
                · rw [if_pos h10985] at H
                  refine EW.skip (by kernel_rfl) ?_
                  refine EQ.code ?_
                  refine EW.seq (x := Cd56.r.r.l.r.l.l.r.l.l.r.r.l.l.r.l) (y := Cd56.r.r.l.r.l.l.r.l.l.r.r.l.l.r.r) (by kernel_rfl) ?_
                  refine EW.block (x := Cd56.r.r.l.r.l.l.r.l.l.r.r.l.l.r.l.l) (id := 3) (by kernel_rfl) ?_
                  refine EW.seq (x := Cd56.r.r.l.r.l.l.r.l.l.r.r.l.l.r.l.l.l) (y := Cd56.r.r.l.r.l.l.r.l.l.r.r.l.l.r.l.l.r) (by kernel_rfl) ?_
                  obtain ⟨h11013, H⟩ := ite_in H
                  obtain ⟨h11017, H⟩ := ite_in H
                  refine EW.meet (id := 11) (ops := Cd56.r.r.l.r.l.l.r.l.l.r.r.l.l.r.l.l.l.ops) (fun a w => Sat 53 [(0, .slice (some ad10863) l7983.length C7985), (1, .slice (some ad10867) l7986.length C7988), (5, .int .i64 x9993), (6, .int .i64 x10929), (52, .bool (!((((((l7983.getD x9993.toNat []).getD x10929.toNat zS75).f0) == (((l7986.getD x9993.toNat []).getD x10929.toNat zS75).f0)) && (((((l7983.getD x9993.toNat []).getD x10929.toNat zS75).f1) == (((l7986.getD x9993.toNat []).getD x10929.toNat zS75).f1)) && (((((l7983.getD x9993.toNat []).getD x10929.toNat zS75).f2) == (((l7986.getD x9993.toNat []).getD x10929.toNat zS75).f2)) && (((((l7983.getD x9993.toNat []).getD x10929.toNat zS75).f3) == (((l7986.getD x9993.toNat []).getD x10929.toNat zS75).f3)) && true)))))))] a ∧ St B w (os) (Ro.sl kS75 A10983 C10984 (l7983.getD x9993.toNat []) :: Ro.sl (Kd.slice kS75) (some ad10863) C7985 l7983 :: Ro.sl (Kd.slice kS75) (some ad10867) C7988 l7986 :: rs)) (by kernel_rfl) ?_ (fun a w hI => ?_)
                  · have hS := hS.drew
                    refine EW.draw (B := B) (id := 11) (ops := Cd56.r.r.l.r.l.l.r.l.l.r.r.l.l.r.l.l.l.ops) [] [Ro.sl kS75 A10983 C10984 (l7983.getD x9993.toNat []), Ro.sl (Kd.slice kS75) (some ad10863) C7985 l7983, Ro.sl (Kd.slice kS75) (some ad10867) C7988 l7986] (by kernel_rfl) (by kernel_rfl) ?_
                    have hN : Region.noSelect Cd56.r.r.l.r.l.l.r.l.l.r.r.l.l.r.l.l.l.ops = true := (by kernel_rfl)
                    have hF : freeAll Cd56.r.r.l.r.l.l.r.l.l.r.r.l.l.r.l.l.l.ops = true := (by kernel_rfl)
                    have hC : Core B [] [Ro.sl kS75 A10983 C10984 (l7983.getD x9993.toNat []), Ro.sl (Kd.slice kS75) (some ad10863) C7985 l7983, Ro.sl (Kd.slice kS75) (some ad10867) C7988 l7986] _ := ⟨_, _, hS⟩
                    refine ED.quick hN hF hC [0, 1, 4, 7, 8, 11] [0, 1, 5, 6, 38, 39, 42, 45, 46, 49] 9 [(0, .slice (some ad10863) l7983.length C7985), (1, .slice (some ad10867) l7986.length C7988), (5, .int .i64 x9993), (6, .int .i64 x10929), (38, .slice (some ad10863) l7983.length C7985), (39, .int .i64 x9993), (42, .int .i64 x10929), (45, .slice (some ad10867) l7986.length C7988), (46, .int .i64 x9993), (49, .int .i64 x10929)] #[true, true, false, false, true, false, false, true, true, false, false, true, false, false, false] (by kernel_rfl) (by kernel_rfl) ?_
                    refine ED.Y hN hF hC 2 8 #[true, true, true, false, true, false, false, true, true, false, false, true, false, false, false] (by kernel_rfl) (by kernel_rfl) rfl (fun _ _ _ hS => YO.idx 80 1 ad10863 l7983.length C7985 .i64 x9993 40 (by kernel_rfl) (by kernel_rfl) (by kernel_rfl) (by kernel_rfl) h10862 h10501) ?_
                    refine ED.Y hN hF hC 9 7 #[true, true, true, false, true, false, false, true, true, true, false, true, false, false, false] (by kernel_rfl) (by kernel_rfl) rfl (fun _ _ _ hS => YO.idx 80 1 ad10867 l7986.length C7988 .i64 x9993 47 (by kernel_rfl) (by kernel_rfl) (by kernel_rfl) (by kernel_rfl) h10862 h10866) ?_
                    refine ED.two 3 10 6 (by kernel_rfl) (by kernel_rfl) ?_ ?_
                    · refine EO.loadSl hS kS75 ad10863 C7985 l7983 (Rd.ro 1 rfl) x9993 h10862 h10501 87 41 (by kernel_rfl) (by kernel_rfl) (by kernel_rfl) (by kernel_rfl) ?_
                      intro A11037 C11038 hS
                      have hC : Core B [] [Ro.sl kS75 A10983 C10984 (l7983.getD x9993.toNat []), Ro.sl (Kd.slice kS75) (some ad10863) C7985 l7983, Ro.sl (Kd.slice kS75) (some ad10867) C7988 l7986] _ := ⟨_, _, hS.re [] [] rfl (sub_cons 1 rfl (sub_cons 2 rfl (sub_cons 3 rfl sub_self)))⟩
                      refine ⟨hC, ?_⟩
                      refine ED.at' #[true, true, true, true, true, false, false, true, true, true, false, true, false, false, false] (by kernel_rfl) ?_
                      obtain ⟨ad11039, rfl⟩ := St.rd_some hS (Rd.ro 0 rfl) h11013 h10985
                      refine ED.Y hN hF hC 5 5 #[true, true, true, true, true, true, false, true, true, true, false, true, false, false, false] (by kernel_rfl) (by kernel_rfl) rfl (fun _ _ _ hS => YO.idx 87 4 ad11039 (l7983.getD x9993.toNat []).length C11038 .i64 x10929 43 (by kernel_rfl) (by kernel_rfl) (by kernel_rfl) (by kernel_rfl) h11013 h10985) ?_
                      refine ED.two 6 10 4 (by kernel_rfl) (by kernel_rfl) ?_ ?_
                      · refine EO.Y (YO.loadEl hS kS75 ad11039 C11038 (l7983.getD x9993.toNat []) (Rd.ro 0 rfl) zS75 encS75 encS75_of x10929 h11013 h10985 75 4 0 4 rfl (.agg #[.int .i64 (((l7983.getD x9993.toNat []).getD x10929.toNat zS75).f0), .int .i64 (((l7983.getD x9993.toNat []).getD x10929.toNat zS75).f1), .int .i32 (((l7983.getD x9993.toNat []).getD x10929.toNat zS75).f2), .int .i64 (((l7983.getD x9993.toNat []).getD x10929.toNat zS75).f3)]) 44 (by kernel_rfl) (by kernel_rfl) (by kernel_rfl) (by kernel_rfl)) ?_
                        have hC : Core B [] [Ro.sl kS75 A10983 C10984 (l7983.getD x9993.toNat []), Ro.sl (Kd.slice kS75) (some ad10863) C7985 l7983, Ro.sl (Kd.slice kS75) (some ad10867) C7988 l7986] _ := ⟨_, _, hS.re [] [] rfl (sub_cons 1 rfl (sub_cons 2 rfl (sub_cons 3 rfl sub_self)))⟩
                        refine ⟨hC, ?_⟩
                        refine ED.at' #[true, true, true, true, true, true, true, true, true, true, false, true, false, false, false] (by kernel_rfl) ?_
                        refine ED.one 10 3 #[true, true, true, true, true, true, true, true, true, true, true, true, false, false, false] (by kernel_rfl) (by kernel_rfl) (by kernel_rfl) (EO.loadSl hS kS75 ad10867 C7988 l7986 (Rd.ro 3 rfl) x9993 h10862 h10866 87 48 (by kernel_rfl) (by kernel_rfl) (by kernel_rfl) (by kernel_rfl) ?_)
                        intro A11040 C11041 hS
                        have hC : Core B [] [Ro.sl kS75 A10983 C10984 (l7983.getD x9993.toNat []), Ro.sl (Kd.slice kS75) (some ad10863) C7985 l7983, Ro.sl (Kd.slice kS75) (some ad10867) C7988 l7986] _ := ⟨_, _, hS.re [] [] rfl (sub_cons 2 rfl (sub_cons 3 rfl (sub_cons 4 rfl sub_self)))⟩
                        refine ⟨hC, ?_⟩
                        obtain ⟨ad11042, rfl⟩ := St.rd_some hS (Rd.ro 0 rfl) h11013 h11017
                        refine ED.Y hN hF hC 12 2 #[true, true, true, true, true, true, true, true, true, true, true, true, true, false, false] (by kernel_rfl) (by kernel_rfl) rfl (fun _ _ _ hS => YO.idx 87 4 ad11042 (l7986.getD x9993.toNat []).length C11041 .i64 x10929 50 (by kernel_rfl) (by kernel_rfl) (by kernel_rfl) (by kernel_rfl) h11013 h11017) ?_
                        refine ED.one 13 1 #[true, true, true, true, true, true, true, true, true, true, true, true, true, true, false] (by kernel_rfl) (by kernel_rfl) (by kernel_rfl) (EO.Y (YO.loadEl hS kS75 ad11042 C11041 (l7986.getD x9993.toNat []) (Rd.ro 0 rfl) zS75 encS75 encS75_of x10929 h11013 h11017 75 4 0 4 rfl (.agg #[.int .i64 (((l7986.getD x9993.toNat []).getD x10929.toNat zS75).f0), .int .i64 (((l7986.getD x9993.toNat []).getD x10929.toNat zS75).f1), .int .i32 (((l7986.getD x9993.toNat []).getD x10929.toNat zS75).f2), .int .i64 (((l7986.getD x9993.toNat []).getD x10929.toNat zS75).f3)]) 51 (by kernel_rfl) (by kernel_rfl) (by kernel_rfl) (by kernel_rfl)) ?_)
                        have hC : Core B [] [Ro.sl kS75 A10983 C10984 (l7983.getD x9993.toNat []), Ro.sl (Kd.slice kS75) (some ad10863) C7985 l7983, Ro.sl (Kd.slice kS75) (some ad10867) C7988 l7986] _ := ⟨_, _, hS.re [] [] rfl (sub_cons 2 rfl (sub_cons 3 rfl (sub_cons 4 rfl sub_self)))⟩
                        refine ⟨hC, ?_⟩
                        refine ED.Y hN hF hC 14 0 #[true, true, true, true, true, true, true, true, true, true, true, true, true, true, true] (by kernel_rfl) (by kernel_rfl) rfl (fun _ _ _ hS => YO.eqAg .neq 75 (.tmp 44) (.tmp 51) #[.int .i64 (((l7983.getD x9993.toNat []).getD x10929.toNat zS75).f0), .int .i64 (((l7983.getD x9993.toNat []).getD x10929.toNat zS75).f1), .int .i32 (((l7983.getD x9993.toNat []).getD x10929.toNat zS75).f2), .int .i64 (((l7983.getD x9993.toNat []).getD x10929.toNat zS75).f3)] #[.int .i64 (((l7986.getD x9993.toNat []).getD x10929.toNat zS75).f0), .int .i64 (((l7986.getD x9993.toNat []).getD x10929.toNat zS75).f1), .int .i32 (((l7986.getD x9993.toNat []).getD x10929.toNat zS75).f2), .int .i64 (((l7986.getD x9993.toNat []).getD x10929.toNat zS75).f3)] (((((l7983.getD x9993.toNat []).getD x10929.toNat zS75).f0) == (((l7986.getD x9993.toNat []).getD x10929.toNat zS75).f0)) && (((((l7983.getD x9993.toNat []).getD x10929.toNat zS75).f1) == (((l7986.getD x9993.toNat []).getD x10929.toNat zS75).f1)) && (((((l7983.getD x9993.toNat []).getD x10929.toNat zS75).f2) == (((l7986.getD x9993.toNat []).getD x10929.toNat zS75).f2)) && (((((l7983.getD x9993.toNat []).getD x10929.toNat zS75).f3) == (((l7986.getD x9993.toNat []).getD x10929.toNat zS75).f3)) && true)))) (!((((((l7983.getD x9993.toNat []).getD x10929.toNat zS75).f0) == (((l7986.getD x9993.toNat []).getD x10929.toNat zS75).f0)) && (((((l7983.getD x9993.toNat []).getD x10929.toNat zS75).f1) == (((l7986.getD x9993.toNat []).getD x10929.toNat zS75).f1)) && (((((l7983.getD x9993.toNat []).getD x10929.toNat zS75).f2) == (((l7986.getD x9993.toNat []).getD x10929.toNat zS75).f2)) && (((((l7983.getD x9993.toNat []).getD x10929.toNat zS75).f3) == (((l7986.getD x9993.toNat []).getD x10929.toNat zS75).f3)) && true)))))) 52 (by kernel_rfl) (by kernel_rfl) (by kernel_rfl) (by kernel_rfl) (by kernel_rfl) (.inr ⟨rfl, rfl⟩)) ?_
                        refine ED.done (by kernel_rfl) ?_
                        refine EQ.to ?_
                        refine EQ.keep [0, 1, 5, 6, 52] [(0, .slice (some ad10863) l7983.length C7985), (1, .slice (some ad10867) l7986.length C7988), (5, .int .i64 x9993), (6, .int .i64 x10929), (52, .bool (!((((((l7983.getD x9993.toNat []).getD x10929.toNat zS75).f0) == (((l7986.getD x9993.toNat []).getD x10929.toNat zS75).f0)) && (((((l7983.getD x9993.toNat []).getD x10929.toNat zS75).f1) == (((l7986.getD x9993.toNat []).getD x10929.toNat zS75).f1)) && (((((l7983.getD x9993.toNat []).getD x10929.toNat zS75).f2) == (((l7986.getD x9993.toNat []).getD x10929.toNat zS75).f2)) && (((((l7983.getD x9993.toNat []).getD x10929.toNat zS75).f3) == (((l7986.getD x9993.toNat []).getD x10929.toNat zS75).f3)) && true)))))))] (by kernel_rfl) ?_
                        exact fun a ha => ⟨ha, (hS.re [] [] rfl (sub_cons 2 rfl (sub_cons 3 rfl (sub_cons 4 rfl (sub_tail (sub_tail (sub_tail (sub_tail (sub_tail (sub_self))))))))))⟩
                      · refine EO.loadSl hS kS75 ad10867 C7988 l7986 (Rd.ro 3 rfl) x9993 h10862 h10866 87 48 (by kernel_rfl) (by kernel_rfl) (by kernel_rfl) (by kernel_rfl) ?_
                        intro A11043 C11044 hS
                        have hC : Core B [] [Ro.sl kS75 A10983 C10984 (l7983.getD x9993.toNat []), Ro.sl (Kd.slice kS75) (some ad10863) C7985 l7983, Ro.sl (Kd.slice kS75) (some ad10867) C7988 l7986] _ := ⟨_, _, hS.re [] [] rfl (sub_cons 2 rfl (sub_cons 3 rfl (sub_cons 4 rfl sub_self)))⟩
                        refine ⟨hC, ?_⟩
                        refine ED.at' #[true, true, true, true, true, true, false, true, true, true, true, true, false, false, false] (by kernel_rfl) ?_
                        obtain ⟨ad11045, rfl⟩ := St.rd_some hS (Rd.ro 0 rfl) h11013 h11017
                        refine ED.Y hN hF hC 12 3 #[true, true, true, true, true, true, false, true, true, true, true, true, true, false, false] (by kernel_rfl) (by kernel_rfl) rfl (fun _ _ _ hS => YO.idx 87 4 ad11045 (l7986.getD x9993.toNat []).length C11044 .i64 x10929 50 (by kernel_rfl) (by kernel_rfl) (by kernel_rfl) (by kernel_rfl) h11013 h11017) ?_
                        refine ED.two 6 13 2 (by kernel_rfl) (by kernel_rfl) ?_ ?_
                        · refine EO.Y (YO.loadEl hS kS75 ad11039 C11038 (l7983.getD x9993.toNat []) (Rd.ro 1 rfl) zS75 encS75 encS75_of x10929 h11013 h10985 75 4 0 4 rfl (.agg #[.int .i64 (((l7983.getD x9993.toNat []).getD x10929.toNat zS75).f0), .int .i64 (((l7983.getD x9993.toNat []).getD x10929.toNat zS75).f1), .int .i32 (((l7983.getD x9993.toNat []).getD x10929.toNat zS75).f2), .int .i64 (((l7983.getD x9993.toNat []).getD x10929.toNat zS75).f3)]) 44 (by kernel_rfl) (by kernel_rfl) (by kernel_rfl) (by kernel_rfl)) ?_
                          have hC : Core B [] [Ro.sl kS75 A10983 C10984 (l7983.getD x9993.toNat []), Ro.sl (Kd.slice kS75) (some ad10863) C7985 l7983, Ro.sl (Kd.slice kS75) (some ad10867) C7988 l7986] _ := ⟨_, _, hS.re [] [] rfl (sub_cons 2 rfl (sub_cons 3 rfl (sub_cons 4 rfl sub_self)))⟩
                          refine ⟨hC, ?_⟩
                          refine ED.at' #[true, true, true, true, true, true, true, true, true, true, true, true, true, false, false] (by kernel_rfl) ?_
                          refine ED.one 13 1 #[true, true, true, true, true, true, true, true, true, true, true, true, true, true, false] (by kernel_rfl) (by kernel_rfl) (by kernel_rfl) (EO.Y (YO.loadEl hS kS75 ad11045 C11044 (l7986.getD x9993.toNat []) (Rd.ro 0 rfl) zS75 encS75 encS75_of x10929 h11013 h11017 75 4 0 4 rfl (.agg #[.int .i64 (((l7986.getD x9993.toNat []).getD x10929.toNat zS75).f0), .int .i64 (((l7986.getD x9993.toNat []).getD x10929.toNat zS75).f1), .int .i32 (((l7986.getD x9993.toNat []).getD x10929.toNat zS75).f2), .int .i64 (((l7986.getD x9993.toNat []).getD x10929.toNat zS75).f3)]) 51 (by kernel_rfl) (by kernel_rfl) (by kernel_rfl) (by kernel_rfl)) ?_)
                          have hC : Core B [] [Ro.sl kS75 A10983 C10984 (l7983.getD x9993.toNat []), Ro.sl (Kd.slice kS75) (some ad10863) C7985 l7983, Ro.sl (Kd.slice kS75) (some ad10867) C7988 l7986] _ := ⟨_, _, hS.re [] [] rfl (sub_cons 2 rfl (sub_cons 3 rfl (sub_cons 4 rfl sub_self)))⟩
                          refine ⟨hC, ?_⟩
                          refine ED.Y hN hF hC 14 0 #[true, true, true, true, true, true, true, true, true, true, true, true, true, true, true] (by kernel_rfl) (by kernel_rfl) rfl (fun _ _ _ hS => YO.eqAg .neq 75 (.tmp 44) (.tmp 51) #[.int .i64 (((l7983.getD x9993.toNat []).getD x10929.toNat zS75).f0), .int .i64 (((l7983.getD x9993.toNat []).getD x10929.toNat zS75).f1), .int .i32 (((l7983.getD x9993.toNat []).getD x10929.toNat zS75).f2), .int .i64 (((l7983.getD x9993.toNat []).getD x10929.toNat zS75).f3)] #[.int .i64 (((l7986.getD x9993.toNat []).getD x10929.toNat zS75).f0), .int .i64 (((l7986.getD x9993.toNat []).getD x10929.toNat zS75).f1), .int .i32 (((l7986.getD x9993.toNat []).getD x10929.toNat zS75).f2), .int .i64 (((l7986.getD x9993.toNat []).getD x10929.toNat zS75).f3)] (((((l7983.getD x9993.toNat []).getD x10929.toNat zS75).f0) == (((l7986.getD x9993.toNat []).getD x10929.toNat zS75).f0)) && (((((l7983.getD x9993.toNat []).getD x10929.toNat zS75).f1) == (((l7986.getD x9993.toNat []).getD x10929.toNat zS75).f1)) && (((((l7983.getD x9993.toNat []).getD x10929.toNat zS75).f2) == (((l7986.getD x9993.toNat []).getD x10929.toNat zS75).f2)) && (((((l7983.getD x9993.toNat []).getD x10929.toNat zS75).f3) == (((l7986.getD x9993.toNat []).getD x10929.toNat zS75).f3)) && true)))) (!((((((l7983.getD x9993.toNat []).getD x10929.toNat zS75).f0) == (((l7986.getD x9993.toNat []).getD x10929.toNat zS75).f0)) && (((((l7983.getD x9993.toNat []).getD x10929.toNat zS75).f1) == (((l7986.getD x9993.toNat []).getD x10929.toNat zS75).f1)) && (((((l7983.getD x9993.toNat []).getD x10929.toNat zS75).f2) == (((l7986.getD x9993.toNat []).getD x10929.toNat zS75).f2)) && (((((l7983.getD x9993.toNat []).getD x10929.toNat zS75).f3) == (((l7986.getD x9993.toNat []).getD x10929.toNat zS75).f3)) && true)))))) 52 (by kernel_rfl) (by kernel_rfl) (by kernel_rfl) (by kernel_rfl) (by kernel_rfl) (.inr ⟨rfl, rfl⟩)) ?_
                          refine ED.done (by kernel_rfl) ?_
                          refine EQ.to ?_
                          refine EQ.keep [0, 1, 5, 6, 52] [(0, .slice (some ad10863) l7983.length C7985), (1, .slice (some ad10867) l7986.length C7988), (5, .int .i64 x9993), (6, .int .i64 x10929), (52, .bool (!((((((l7983.getD x9993.toNat []).getD x10929.toNat zS75).f0) == (((l7986.getD x9993.toNat []).getD x10929.toNat zS75).f0)) && (((((l7983.getD x9993.toNat []).getD x10929.toNat zS75).f1) == (((l7986.getD x9993.toNat []).getD x10929.toNat zS75).f1)) && (((((l7983.getD x9993.toNat []).getD x10929.toNat zS75).f2) == (((l7986.getD x9993.toNat []).getD x10929.toNat zS75).f2)) && (((((l7983.getD x9993.toNat []).getD x10929.toNat zS75).f3) == (((l7986.getD x9993.toNat []).getD x10929.toNat zS75).f3)) && true)))))))] (by kernel_rfl) ?_
                          exact fun a ha => ⟨ha, (hS.re [] [] rfl (sub_cons 2 rfl (sub_cons 3 rfl (sub_cons 4 rfl (sub_tail (sub_tail (sub_tail (sub_tail (sub_tail (sub_self))))))))))⟩
                        · refine EO.Y (YO.loadEl hS kS75 ad11045 C11044 (l7986.getD x9993.toNat []) (Rd.ro 0 rfl) zS75 encS75 encS75_of x10929 h11013 h11017 75 4 0 4 rfl (.agg #[.int .i64 (((l7986.getD x9993.toNat []).getD x10929.toNat zS75).f0), .int .i64 (((l7986.getD x9993.toNat []).getD x10929.toNat zS75).f1), .int .i32 (((l7986.getD x9993.toNat []).getD x10929.toNat zS75).f2), .int .i64 (((l7986.getD x9993.toNat []).getD x10929.toNat zS75).f3)]) 51 (by kernel_rfl) (by kernel_rfl) (by kernel_rfl) (by kernel_rfl)) ?_
                          have hC : Core B [] [Ro.sl kS75 A10983 C10984 (l7983.getD x9993.toNat []), Ro.sl (Kd.slice kS75) (some ad10863) C7985 l7983, Ro.sl (Kd.slice kS75) (some ad10867) C7988 l7986] _ := ⟨_, _, hS.re [] [] rfl (sub_cons 2 rfl (sub_cons 3 rfl (sub_cons 4 rfl sub_self)))⟩
                          refine ⟨hC, ?_⟩
                          refine ED.at' #[true, true, true, true, true, true, false, true, true, true, true, true, true, true, false] (by kernel_rfl) ?_
                          refine ED.one 6 1 #[true, true, true, true, true, true, true, true, true, true, true, true, true, true, false] (by kernel_rfl) (by kernel_rfl) (by kernel_rfl) (EO.Y (YO.loadEl hS kS75 ad11039 C11038 (l7983.getD x9993.toNat []) (Rd.ro 1 rfl) zS75 encS75 encS75_of x10929 h11013 h10985 75 4 0 4 rfl (.agg #[.int .i64 (((l7983.getD x9993.toNat []).getD x10929.toNat zS75).f0), .int .i64 (((l7983.getD x9993.toNat []).getD x10929.toNat zS75).f1), .int .i32 (((l7983.getD x9993.toNat []).getD x10929.toNat zS75).f2), .int .i64 (((l7983.getD x9993.toNat []).getD x10929.toNat zS75).f3)]) 44 (by kernel_rfl) (by kernel_rfl) (by kernel_rfl) (by kernel_rfl)) ?_)
                          have hC : Core B [] [Ro.sl kS75 A10983 C10984 (l7983.getD x9993.toNat []), Ro.sl (Kd.slice kS75) (some ad10863) C7985 l7983, Ro.sl (Kd.slice kS75) (some ad10867) C7988 l7986] _ := ⟨_, _, hS.re [] [] rfl (sub_cons 2 rfl (sub_cons 3 rfl (sub_cons 4 rfl sub_self)))⟩
                          refine ⟨hC, ?_⟩
                          refine ED.Y hN hF hC 14 0 #[true, true, true, true, true, true, true, true, true, true, true, true, true, true, true] (by kernel_rfl) (by kernel_rfl) rfl (fun _ _ _ hS => YO.eqAg .neq 75 (.tmp 44) (.tmp 51) #[.int .i64 (((l7983.getD x9993.toNat []).getD x10929.toNat zS75).f0), .int .i64 (((l7983.getD x9993.toNat []).getD x10929.toNat zS75).f1), .int .i32 (((l7983.getD x9993.toNat []).getD x10929.toNat zS75).f2), .int .i64 (((l7983.getD x9993.toNat []).getD x10929.toNat zS75).f3)] #[.int .i64 (((l7986.getD x9993.toNat []).getD x10929.toNat zS75).f0), .int .i64 (((l7986.getD x9993.toNat []).getD x10929.toNat zS75).f1), .int .i32 (((l7986.getD x9993.toNat []).getD x10929.toNat zS75).f2), .int .i64 (((l7986.getD x9993.toNat []).getD x10929.toNat zS75).f3)] (((((l7983.getD x9993.toNat []).getD x10929.toNat zS75).f0) == (((l7986.getD x9993.toNat []).getD x10929.toNat zS75).f0)) && (((((l7983.getD x9993.toNat []).getD x10929.toNat zS75).f1) == (((l7986.getD x9993.toNat []).getD x10929.toNat zS75).f1)) && (((((l7983.getD x9993.toNat []).getD x10929.toNat zS75).f2) == (((l7986.getD x9993.toNat []).getD x10929.toNat zS75).f2)) && (((((l7983.getD x9993.toNat []).getD x10929.toNat zS75).f3) == (((l7986.getD x9993.toNat []).getD x10929.toNat zS75).f3)) && true)))) (!((((((l7983.getD x9993.toNat []).getD x10929.toNat zS75).f0) == (((l7986.getD x9993.toNat []).getD x10929.toNat zS75).f0)) && (((((l7983.getD x9993.toNat []).getD x10929.toNat zS75).f1) == (((l7986.getD x9993.toNat []).getD x10929.toNat zS75).f1)) && (((((l7983.getD x9993.toNat []).getD x10929.toNat zS75).f2) == (((l7986.getD x9993.toNat []).getD x10929.toNat zS75).f2)) && (((((l7983.getD x9993.toNat []).getD x10929.toNat zS75).f3) == (((l7986.getD x9993.toNat []).getD x10929.toNat zS75).f3)) && true)))))) 52 (by kernel_rfl) (by kernel_rfl) (by kernel_rfl) (by kernel_rfl) (by kernel_rfl) (.inr ⟨rfl, rfl⟩)) ?_
                          refine ED.done (by kernel_rfl) ?_
                          refine EQ.to ?_
                          refine EQ.keep [0, 1, 5, 6, 52] [(0, .slice (some ad10863) l7983.length C7985), (1, .slice (some ad10867) l7986.length C7988), (5, .int .i64 x9993), (6, .int .i64 x10929), (52, .bool (!((((((l7983.getD x9993.toNat []).getD x10929.toNat zS75).f0) == (((l7986.getD x9993.toNat []).getD x10929.toNat zS75).f0)) && (((((l7983.getD x9993.toNat []).getD x10929.toNat zS75).f1) == (((l7986.getD x9993.toNat []).getD x10929.toNat zS75).f1)) && (((((l7983.getD x9993.toNat []).getD x10929.toNat zS75).f2) == (((l7986.getD x9993.toNat []).getD x10929.toNat zS75).f2)) && (((((l7983.getD x9993.toNat []).getD x10929.toNat zS75).f3) == (((l7986.getD x9993.toNat []).getD x10929.toNat zS75).f3)) && true)))))))] (by kernel_rfl) ?_
                          exact fun a ha => ⟨ha, (hS.re [] [] rfl (sub_cons 2 rfl (sub_cons 3 rfl (sub_cons 4 rfl (sub_tail (sub_tail (sub_tail (sub_tail (sub_tail (sub_self))))))))))⟩
                    · refine EO.loadSl hS kS75 ad10867 C7988 l7986 (Rd.ro 2 rfl) x9993 h10862 h10866 87 48 (by kernel_rfl) (by kernel_rfl) (by kernel_rfl) (by kernel_rfl) ?_
                      intro A11046 C11047 hS
                      have hC : Core B [] [Ro.sl kS75 A10983 C10984 (l7983.getD x9993.toNat []), Ro.sl (Kd.slice kS75) (some ad10863) C7985 l7983, Ro.sl (Kd.slice kS75) (some ad10867) C7988 l7986] _ := ⟨_, _, hS.re [] [] rfl (sub_cons 1 rfl (sub_cons 2 rfl (sub_cons 3 rfl sub_self)))⟩
                      refine ⟨hC, ?_⟩
                      refine ED.at' #[true, true, true, false, true, false, false, true, true, true, true, true, false, false, false] (by kernel_rfl) ?_
                      obtain ⟨ad11048, rfl⟩ := St.rd_some hS (Rd.ro 0 rfl) h11013 h11017
                      refine ED.Y hN hF hC 12 5 #[true, true, true, false, true, false, false, true, true, true, true, true, true, false, false] (by kernel_rfl) (by kernel_rfl) rfl (fun _ _ _ hS => YO.idx 87 4 ad11048 (l7986.getD x9993.toNat []).length C11047 .i64 x10929 50 (by kernel_rfl) (by kernel_rfl) (by kernel_rfl) (by kernel_rfl) h11013 h11017) ?_
                      refine ED.two 3 13 4 (by kernel_rfl) (by kernel_rfl) ?_ ?_
                      · refine EO.loadSl hS kS75 ad10863 C7985 l7983 (Rd.ro 2 rfl) x9993 h10862 h10501 87 41 (by kernel_rfl) (by kernel_rfl) (by kernel_rfl) (by kernel_rfl) ?_
                        intro A11049 C11050 hS
                        have hC : Core B [] [Ro.sl kS75 A10983 C10984 (l7983.getD x9993.toNat []), Ro.sl (Kd.slice kS75) (some ad10863) C7985 l7983, Ro.sl (Kd.slice kS75) (some ad10867) C7988 l7986] _ := ⟨_, _, hS.re [] [] rfl (sub_cons 2 rfl (sub_cons 3 rfl (sub_cons 4 rfl sub_self)))⟩
                        refine ⟨hC, ?_⟩
                        refine ED.at' #[true, true, true, true, true, false, false, true, true, true, true, true, true, false, false] (by kernel_rfl) ?_
                        obtain ⟨ad11051, rfl⟩ := St.rd_some hS (Rd.ro 0 rfl) h11013 h10985
                        refine ED.Y hN hF hC 5 3 #[true, true, true, true, true, true, false, true, true, true, true, true, true, false, false] (by kernel_rfl) (by kernel_rfl) rfl (fun _ _ _ hS => YO.idx 87 4 ad11051 (l7983.getD x9993.toNat []).length C11050 .i64 x10929 43 (by kernel_rfl) (by kernel_rfl) (by kernel_rfl) (by kernel_rfl) h11013 h10985) ?_
                        refine ED.two 6 13 2 (by kernel_rfl) (by kernel_rfl) ?_ ?_
                        · refine EO.Y (YO.loadEl hS kS75 ad11051 C11050 (l7983.getD x9993.toNat []) (Rd.ro 0 rfl) zS75 encS75 encS75_of x10929 h11013 h10985 75 4 0 4 rfl (.agg #[.int .i64 (((l7983.getD x9993.toNat []).getD x10929.toNat zS75).f0), .int .i64 (((l7983.getD x9993.toNat []).getD x10929.toNat zS75).f1), .int .i32 (((l7983.getD x9993.toNat []).getD x10929.toNat zS75).f2), .int .i64 (((l7983.getD x9993.toNat []).getD x10929.toNat zS75).f3)]) 44 (by kernel_rfl) (by kernel_rfl) (by kernel_rfl) (by kernel_rfl)) ?_
                          have hC : Core B [] [Ro.sl kS75 A10983 C10984 (l7983.getD x9993.toNat []), Ro.sl (Kd.slice kS75) (some ad10863) C7985 l7983, Ro.sl (Kd.slice kS75) (some ad10867) C7988 l7986] _ := ⟨_, _, hS.re [] [] rfl (sub_cons 2 rfl (sub_cons 3 rfl (sub_cons 4 rfl sub_self)))⟩
                          refine ⟨hC, ?_⟩
                          refine ED.at' #[true, true, true, true, true, true, true, true, true, true, true, true, true, false, false] (by kernel_rfl) ?_
                          refine ED.one 13 1 #[true, true, true, true, true, true, true, true, true, true, true, true, true, true, false] (by kernel_rfl) (by kernel_rfl) (by kernel_rfl) (EO.Y (YO.loadEl hS kS75 ad11048 C11047 (l7986.getD x9993.toNat []) (Rd.ro 1 rfl) zS75 encS75 encS75_of x10929 h11013 h11017 75 4 0 4 rfl (.agg #[.int .i64 (((l7986.getD x9993.toNat []).getD x10929.toNat zS75).f0), .int .i64 (((l7986.getD x9993.toNat []).getD x10929.toNat zS75).f1), .int .i32 (((l7986.getD x9993.toNat []).getD x10929.toNat zS75).f2), .int .i64 (((l7986.getD x9993.toNat []).getD x10929.toNat zS75).f3)]) 51 (by kernel_rfl) (by kernel_rfl) (by kernel_rfl) (by kernel_rfl)) ?_)
                          have hC : Core B [] [Ro.sl kS75 A10983 C10984 (l7983.getD x9993.toNat []), Ro.sl (Kd.slice kS75) (some ad10863) C7985 l7983, Ro.sl (Kd.slice kS75) (some ad10867) C7988 l7986] _ := ⟨_, _, hS.re [] [] rfl (sub_cons 2 rfl (sub_cons 3 rfl (sub_cons 4 rfl sub_self)))⟩
                          refine ⟨hC, ?_⟩
                          refine ED.Y hN hF hC 14 0 #[true, true, true, true, true, true, true, true, true, true, true, true, true, true, true] (by kernel_rfl) (by kernel_rfl) rfl (fun _ _ _ hS => YO.eqAg .neq 75 (.tmp 44) (.tmp 51) #[.int .i64 (((l7983.getD x9993.toNat []).getD x10929.toNat zS75).f0), .int .i64 (((l7983.getD x9993.toNat []).getD x10929.toNat zS75).f1), .int .i32 (((l7983.getD x9993.toNat []).getD x10929.toNat zS75).f2), .int .i64 (((l7983.getD x9993.toNat []).getD x10929.toNat zS75).f3)] #[.int .i64 (((l7986.getD x9993.toNat []).getD x10929.toNat zS75).f0), .int .i64 (((l7986.getD x9993.toNat []).getD x10929.toNat zS75).f1), .int .i32 (((l7986.getD x9993.toNat []).getD x10929.toNat zS75).f2), .int .i64 (((l7986.getD x9993.toNat []).getD x10929.toNat zS75).f3)] (((((l7983.getD x9993.toNat []).getD x10929.toNat zS75).f0) == (((l7986.getD x9993.toNat []).getD x10929.toNat zS75).f0)) && (((((l7983.getD x9993.toNat []).getD x10929.toNat zS75).f1) == (((l7986.getD x9993.toNat []).getD x10929.toNat zS75).f1)) && (((((l7983.getD x9993.toNat []).getD x10929.toNat zS75).f2) == (((l7986.getD x9993.toNat []).getD x10929.toNat zS75).f2)) && (((((l7983.getD x9993.toNat []).getD x10929.toNat zS75).f3) == (((l7986.getD x9993.toNat []).getD x10929.toNat zS75).f3)) && true)))) (!((((((l7983.getD x9993.toNat []).getD x10929.toNat zS75).f0) == (((l7986.getD x9993.toNat []).getD x10929.toNat zS75).f0)) && (((((l7983.getD x9993.toNat []).getD x10929.toNat zS75).f1) == (((l7986.getD x9993.toNat []).getD x10929.toNat zS75).f1)) && (((((l7983.getD x9993.toNat []).getD x10929.toNat zS75).f2) == (((l7986.getD x9993.toNat []).getD x10929.toNat zS75).f2)) && (((((l7983.getD x9993.toNat []).getD x10929.toNat zS75).f3) == (((l7986.getD x9993.toNat []).getD x10929.toNat zS75).f3)) && true)))))) 52 (by kernel_rfl) (by kernel_rfl) (by kernel_rfl) (by kernel_rfl) (by kernel_rfl) (.inr ⟨rfl, rfl⟩)) ?_
                          refine ED.done (by kernel_rfl) ?_
                          refine EQ.to ?_
                          refine EQ.keep [0, 1, 5, 6, 52] [(0, .slice (some ad10863) l7983.length C7985), (1, .slice (some ad10867) l7986.length C7988), (5, .int .i64 x9993), (6, .int .i64 x10929), (52, .bool (!((((((l7983.getD x9993.toNat []).getD x10929.toNat zS75).f0) == (((l7986.getD x9993.toNat []).getD x10929.toNat zS75).f0)) && (((((l7983.getD x9993.toNat []).getD x10929.toNat zS75).f1) == (((l7986.getD x9993.toNat []).getD x10929.toNat zS75).f1)) && (((((l7983.getD x9993.toNat []).getD x10929.toNat zS75).f2) == (((l7986.getD x9993.toNat []).getD x10929.toNat zS75).f2)) && (((((l7983.getD x9993.toNat []).getD x10929.toNat zS75).f3) == (((l7986.getD x9993.toNat []).getD x10929.toNat zS75).f3)) && true)))))))] (by kernel_rfl) ?_
                          exact fun a ha => ⟨ha, (hS.re [] [] rfl (sub_cons 2 rfl (sub_cons 3 rfl (sub_cons 4 rfl (sub_tail (sub_tail (sub_tail (sub_tail (sub_tail (sub_self))))))))))⟩
                        · refine EO.Y (YO.loadEl hS kS75 ad11048 C11047 (l7986.getD x9993.toNat []) (Rd.ro 1 rfl) zS75 encS75 encS75_of x10929 h11013 h11017 75 4 0 4 rfl (.agg #[.int .i64 (((l7986.getD x9993.toNat []).getD x10929.toNat zS75).f0), .int .i64 (((l7986.getD x9993.toNat []).getD x10929.toNat zS75).f1), .int .i32 (((l7986.getD x9993.toNat []).getD x10929.toNat zS75).f2), .int .i64 (((l7986.getD x9993.toNat []).getD x10929.toNat zS75).f3)]) 51 (by kernel_rfl) (by kernel_rfl) (by kernel_rfl) (by kernel_rfl)) ?_
                          have hC : Core B [] [Ro.sl kS75 A10983 C10984 (l7983.getD x9993.toNat []), Ro.sl (Kd.slice kS75) (some ad10863) C7985 l7983, Ro.sl (Kd.slice kS75) (some ad10867) C7988 l7986] _ := ⟨_, _, hS.re [] [] rfl (sub_cons 2 rfl (sub_cons 3 rfl (sub_cons 4 rfl sub_self)))⟩
                          refine ⟨hC, ?_⟩
                          refine ED.at' #[true, true, true, true, true, true, false, true, true, true, true, true, true, true, false] (by kernel_rfl) ?_
                          refine ED.one 6 1 #[true, true, true, true, true, true, true, true, true, true, true, true, true, true, false] (by kernel_rfl) (by kernel_rfl) (by kernel_rfl) (EO.Y (YO.loadEl hS kS75 ad11051 C11050 (l7983.getD x9993.toNat []) (Rd.ro 0 rfl) zS75 encS75 encS75_of x10929 h11013 h10985 75 4 0 4 rfl (.agg #[.int .i64 (((l7983.getD x9993.toNat []).getD x10929.toNat zS75).f0), .int .i64 (((l7983.getD x9993.toNat []).getD x10929.toNat zS75).f1), .int .i32 (((l7983.getD x9993.toNat []).getD x10929.toNat zS75).f2), .int .i64 (((l7983.getD x9993.toNat []).getD x10929.toNat zS75).f3)]) 44 (by kernel_rfl) (by kernel_rfl) (by kernel_rfl) (by kernel_rfl)) ?_)
                          have hC : Core B [] [Ro.sl kS75 A10983 C10984 (l7983.getD x9993.toNat []), Ro.sl (Kd.slice kS75) (some ad10863) C7985 l7983, Ro.sl (Kd.slice kS75) (some ad10867) C7988 l7986] _ := ⟨_, _, hS.re [] [] rfl (sub_cons 2 rfl (sub_cons 3 rfl (sub_cons 4 rfl sub_self)))⟩
                          refine ⟨hC, ?_⟩
                          refine ED.Y hN hF hC 14 0 #[true, true, true, true, true, true, true, true, true, true, true, true, true, true, true] (by kernel_rfl) (by kernel_rfl) rfl (fun _ _ _ hS => YO.eqAg .neq 75 (.tmp 44) (.tmp 51) #[.int .i64 (((l7983.getD x9993.toNat []).getD x10929.toNat zS75).f0), .int .i64 (((l7983.getD x9993.toNat []).getD x10929.toNat zS75).f1), .int .i32 (((l7983.getD x9993.toNat []).getD x10929.toNat zS75).f2), .int .i64 (((l7983.getD x9993.toNat []).getD x10929.toNat zS75).f3)] #[.int .i64 (((l7986.getD x9993.toNat []).getD x10929.toNat zS75).f0), .int .i64 (((l7986.getD x9993.toNat []).getD x10929.toNat zS75).f1), .int .i32 (((l7986.getD x9993.toNat []).getD x10929.toNat zS75).f2), .int .i64 (((l7986.getD x9993.toNat []).getD x10929.toNat zS75).f3)] (((((l7983.getD x9993.toNat []).getD x10929.toNat zS75).f0) == (((l7986.getD x9993.toNat []).getD x10929.toNat zS75).f0)) && (((((l7983.getD x9993.toNat []).getD x10929.toNat zS75).f1) == (((l7986.getD x9993.toNat []).getD x10929.toNat zS75).f1)) && (((((l7983.getD x9993.toNat []).getD x10929.toNat zS75).f2) == (((l7986.getD x9993.toNat []).getD x10929.toNat zS75).f2)) && (((((l7983.getD x9993.toNat []).getD x10929.toNat zS75).f3) == (((l7986.getD x9993.toNat []).getD x10929.toNat zS75).f3)) && true)))) (!((((((l7983.getD x9993.toNat []).getD x10929.toNat zS75).f0) == (((l7986.getD x9993.toNat []).getD x10929.toNat zS75).f0)) && (((((l7983.getD x9993.toNat []).getD x10929.toNat zS75).f1) == (((l7986.getD x9993.toNat []).getD x10929.toNat zS75).f1)) && (((((l7983.getD x9993.toNat []).getD x10929.toNat zS75).f2) == (((l7986.getD x9993.toNat []).getD x10929.toNat zS75).f2)) && (((((l7983.getD x9993.toNat []).getD x10929.toNat zS75).f3) == (((l7986.getD x9993.toNat []).getD x10929.toNat zS75).f3)) && true)))))) 52 (by kernel_rfl) (by kernel_rfl) (by kernel_rfl) (by kernel_rfl) (by kernel_rfl) (.inr ⟨rfl, rfl⟩)) ?_
                          refine ED.done (by kernel_rfl) ?_
                          refine EQ.to ?_
                          refine EQ.keep [0, 1, 5, 6, 52] [(0, .slice (some ad10863) l7983.length C7985), (1, .slice (some ad10867) l7986.length C7988), (5, .int .i64 x9993), (6, .int .i64 x10929), (52, .bool (!((((((l7983.getD x9993.toNat []).getD x10929.toNat zS75).f0) == (((l7986.getD x9993.toNat []).getD x10929.toNat zS75).f0)) && (((((l7983.getD x9993.toNat []).getD x10929.toNat zS75).f1) == (((l7986.getD x9993.toNat []).getD x10929.toNat zS75).f1)) && (((((l7983.getD x9993.toNat []).getD x10929.toNat zS75).f2) == (((l7986.getD x9993.toNat []).getD x10929.toNat zS75).f2)) && (((((l7983.getD x9993.toNat []).getD x10929.toNat zS75).f3) == (((l7986.getD x9993.toNat []).getD x10929.toNat zS75).f3)) && true)))))))] (by kernel_rfl) ?_
                          exact fun a ha => ⟨ha, (hS.re [] [] rfl (sub_cons 2 rfl (sub_cons 3 rfl (sub_cons 4 rfl (sub_tail (sub_tail (sub_tail (sub_tail (sub_tail (sub_self))))))))))⟩
                      · refine EO.Y (YO.loadEl hS kS75 ad11048 C11047 (l7986.getD x9993.toNat []) (Rd.ro 0 rfl) zS75 encS75 encS75_of x10929 h11013 h11017 75 4 0 4 rfl (.agg #[.int .i64 (((l7986.getD x9993.toNat []).getD x10929.toNat zS75).f0), .int .i64 (((l7986.getD x9993.toNat []).getD x10929.toNat zS75).f1), .int .i32 (((l7986.getD x9993.toNat []).getD x10929.toNat zS75).f2), .int .i64 (((l7986.getD x9993.toNat []).getD x10929.toNat zS75).f3)]) 51 (by kernel_rfl) (by kernel_rfl) (by kernel_rfl) (by kernel_rfl)) ?_
                        have hC : Core B [] [Ro.sl kS75 A10983 C10984 (l7983.getD x9993.toNat []), Ro.sl (Kd.slice kS75) (some ad10863) C7985 l7983, Ro.sl (Kd.slice kS75) (some ad10867) C7988 l7986] _ := ⟨_, _, hS.re [] [] rfl (sub_cons 1 rfl (sub_cons 2 rfl (sub_cons 3 rfl sub_self)))⟩
                        refine ⟨hC, ?_⟩
                        refine ED.at' #[true, true, true, false, true, false, false, true, true, true, true, true, true, true, false] (by kernel_rfl) ?_
                        refine ED.one 3 3 #[true, true, true, true, true, false, false, true, true, true, true, true, true, true, false] (by kernel_rfl) (by kernel_rfl) (by kernel_rfl) (EO.loadSl hS kS75 ad10863 C7985 l7983 (Rd.ro 2 rfl) x9993 h10862 h10501 87 41 (by kernel_rfl) (by kernel_rfl) (by kernel_rfl) (by kernel_rfl) ?_)
                        intro A11052 C11053 hS
                        have hC : Core B [] [Ro.sl kS75 A10983 C10984 (l7983.getD x9993.toNat []), Ro.sl (Kd.slice kS75) (some ad10863) C7985 l7983, Ro.sl (Kd.slice kS75) (some ad10867) C7988 l7986] _ := ⟨_, _, hS.re [] [] rfl (sub_cons 2 rfl (sub_cons 3 rfl (sub_cons 4 rfl sub_self)))⟩
                        refine ⟨hC, ?_⟩
                        obtain ⟨ad11054, rfl⟩ := St.rd_some hS (Rd.ro 0 rfl) h11013 h10985
                        refine ED.Y hN hF hC 5 2 #[true, true, true, true, true, true, false, true, true, true, true, true, true, true, false] (by kernel_rfl) (by kernel_rfl) rfl (fun _ _ _ hS => YO.idx 87 4 ad11054 (l7983.getD x9993.toNat []).length C11053 .i64 x10929 43 (by kernel_rfl) (by kernel_rfl) (by kernel_rfl) (by kernel_rfl) h11013 h10985) ?_
                        refine ED.one 6 1 #[true, true, true, true, true, true, true, true, true, true, true, true, true, true, false] (by kernel_rfl) (by kernel_rfl) (by kernel_rfl) (EO.Y (YO.loadEl hS kS75 ad11054 C11053 (l7983.getD x9993.toNat []) (Rd.ro 0 rfl) zS75 encS75 encS75_of x10929 h11013 h10985 75 4 0 4 rfl (.agg #[.int .i64 (((l7983.getD x9993.toNat []).getD x10929.toNat zS75).f0), .int .i64 (((l7983.getD x9993.toNat []).getD x10929.toNat zS75).f1), .int .i32 (((l7983.getD x9993.toNat []).getD x10929.toNat zS75).f2), .int .i64 (((l7983.getD x9993.toNat []).getD x10929.toNat zS75).f3)]) 44 (by kernel_rfl) (by kernel_rfl) (by kernel_rfl) (by kernel_rfl)) ?_)
                        have hC : Core B [] [Ro.sl kS75 A10983 C10984 (l7983.getD x9993.toNat []), Ro.sl (Kd.slice kS75) (some ad10863) C7985 l7983, Ro.sl (Kd.slice kS75) (some ad10867) C7988 l7986] _ := ⟨_, _, hS.re [] [] rfl (sub_cons 2 rfl (sub_cons 3 rfl (sub_cons 4 rfl sub_self)))⟩
                        refine ⟨hC, ?_⟩
                        refine ED.Y hN hF hC 14 0 #[true, true, true, true, true, true, true, true, true, true, true, true, true, true, true] (by kernel_rfl) (by kernel_rfl) rfl (fun _ _ _ hS => YO.eqAg .neq 75 (.tmp 44) (.tmp 51) #[.int .i64 (((l7983.getD x9993.toNat []).getD x10929.toNat zS75).f0), .int .i64 (((l7983.getD x9993.toNat []).getD x10929.toNat zS75).f1), .int .i32 (((l7983.getD x9993.toNat []).getD x10929.toNat zS75).f2), .int .i64 (((l7983.getD x9993.toNat []).getD x10929.toNat zS75).f3)] #[.int .i64 (((l7986.getD x9993.toNat []).getD x10929.toNat zS75).f0), .int .i64 (((l7986.getD x9993.toNat []).getD x10929.toNat zS75).f1), .int .i32 (((l7986.getD x9993.toNat []).getD x10929.toNat zS75).f2), .int .i64 (((l7986.getD x9993.toNat []).getD x10929.toNat zS75).f3)] (((((l7983.getD x9993.toNat []).getD x10929.toNat zS75).f0) == (((l7986.getD x9993.toNat []).getD x10929.toNat zS75).f0)) && (((((l7983.getD x9993.toNat []).getD x10929.toNat zS75).f1) == (((l7986.getD x9993.toNat []).getD x10929.toNat zS75).f1)) && (((((l7983.getD x9993.toNat []).getD x10929.toNat zS75).f2) == (((l7986.getD x9993.toNat []).getD x10929.toNat zS75).f2)) && (((((l7983.getD x9993.toNat []).getD x10929.toNat zS75).f3) == (((l7986.getD x9993.toNat []).getD x10929.toNat zS75).f3)) && true)))) (!((((((l7983.getD x9993.toNat []).getD x10929.toNat zS75).f0) == (((l7986.getD x9993.toNat []).getD x10929.toNat zS75).f0)) && (((((l7983.getD x9993.toNat []).getD x10929.toNat zS75).f1) == (((l7986.getD x9993.toNat []).getD x10929.toNat zS75).f1)) && (((((l7983.getD x9993.toNat []).getD x10929.toNat zS75).f2) == (((l7986.getD x9993.toNat []).getD x10929.toNat zS75).f2)) && (((((l7983.getD x9993.toNat []).getD x10929.toNat zS75).f3) == (((l7986.getD x9993.toNat []).getD x10929.toNat zS75).f3)) && true)))))) 52 (by kernel_rfl) (by kernel_rfl) (by kernel_rfl) (by kernel_rfl) (by kernel_rfl) (.inr ⟨rfl, rfl⟩)) ?_
                        refine ED.done (by kernel_rfl) ?_
                        refine EQ.to ?_
                        refine EQ.keep [0, 1, 5, 6, 52] [(0, .slice (some ad10863) l7983.length C7985), (1, .slice (some ad10867) l7986.length C7988), (5, .int .i64 x9993), (6, .int .i64 x10929), (52, .bool (!((((((l7983.getD x9993.toNat []).getD x10929.toNat zS75).f0) == (((l7986.getD x9993.toNat []).getD x10929.toNat zS75).f0)) && (((((l7983.getD x9993.toNat []).getD x10929.toNat zS75).f1) == (((l7986.getD x9993.toNat []).getD x10929.toNat zS75).f1)) && (((((l7983.getD x9993.toNat []).getD x10929.toNat zS75).f2) == (((l7986.getD x9993.toNat []).getD x10929.toNat zS75).f2)) && (((((l7983.getD x9993.toNat []).getD x10929.toNat zS75).f3) == (((l7986.getD x9993.toNat []).getD x10929.toNat zS75).f3)) && true)))))))] (by kernel_rfl) ?_
                        exact fun a ha => ⟨ha, (hS.re [] [] rfl (sub_cons 2 rfl (sub_cons 3 rfl (sub_cons 4 rfl (sub_tail (sub_tail (sub_tail (sub_tail (sub_tail (sub_self))))))))))⟩
                  · obtain ⟨ha, hS⟩ := hI
                    refine EQ.at ?_ a ha
                    clear ha a
                    refine EQ.code ?_
                    refine EW.condQ (b := !((((((l7983.getD x9993.toNat []).getD x10929.toNat zS75).f0) == (((l7986.getD x9993.toNat []).getD x10929.toNat zS75).f0)) && (((((l7983.getD x9993.toNat []).getD x10929.toNat zS75).f1) == (((l7986.getD x9993.toNat []).getD x10929.toNat zS75).f1)) && (((((l7983.getD x9993.toNat []).getD x10929.toNat zS75).f2) == (((l7986.getD x9993.toNat []).getD x10929.toNat zS75).f2)) && (((((l7983.getD x9993.toNat []).getD x10929.toNat zS75).f3) == (((l7986.getD x9993.toNat []).getD x10929.toNat zS75).f3)) && true)))))) (o := (.tmp 52)) (x := Cd56.r.r.l.r.l.l.r.l.l.r.r.l.l.r.l.l.r.l) (y := Cd56.r.r.l.r.l.l.r.l.l.r.r.l.l.r.l.l.r.r) ((((((l7983.getD x9993.toNat []).getD x10929.toNat zS75).f0) == (((l7986.getD x9993.toNat []).getD x10929.toNat zS75).f0)) && (((((l7983.getD x9993.toNat []).getD x10929.toNat zS75).f1) == (((l7986.getD x9993.toNat []).getD x10929.toNat zS75).f1)) && (((((l7983.getD x9993.toNat []).getD x10929.toNat zS75).f2) == (((l7986.getD x9993.toNat []).getD x10929.toNat zS75).f2)) && (((((l7983.getD x9993.toNat []).getD x10929.toNat zS75).f3) == (((l7986.getD x9993.toNat []).getD x10929.toNat zS75).f3)) && true)))) = true) (false) (by kernel_rfl) (by kernel_rfl) ⟨fun h => (by rw [h] <;> rfl), fun h => (by rw [Bool.eq_false_iff.2 h] <;> rfl)⟩ (fun h11055 => ?_) (fun h11055 => ?_)
                    · rw [if_pos h11055] at H
                      refine EW.skip (by kernel_rfl) ?_
                      refine EQ.pop ?_
                      refine EQ.code ?_
                      refine EW.region (id := 10) (ops := Cd56.r.r.l.r.l.l.r.l.l.r.r.l.l.r.r.ops) (by kernel_rfl) ?_
                      refine EL.quick 3 [0, 1, 5, 6] [(0, .slice (some ad10863) l7983.length C7985), (1, .slice (some ad10867) l7986.length C7988), (5, .int .i64 x9993), (6, .int .i64 (IntKind.i64.wrap (x10929 + 1)))] (by kernel_rfl) ?_
                      refine EL.done (by kernel_rfl) ?_
                      refine EQ.to ?_
                      refine EQ.keep [0, 1, 5, 6] [(0, .slice (some ad10863) l7983.length C7985), (1, .slice (some ad10867) l7986.length C7988), (5, .int .i64 x9993), (6, .int .i64 (IntKind.i64.wrap (x10929 + 1)))] (by kernel_rfl) ?_
                      exact fun a ha => ⟨n, Nat.lt_succ_self n, IntKind.i64.wrap (x10929 + 1), ha, (hS.re [] [] rfl (sub_cons 1 rfl (sub_cons 2 rfl (sub_tail (sub_tail (sub_tail (sub_self))))))), H⟩
                    · rw [if_neg h11055] at H
                      refine EW.seq (x := Cd56.r.r.l.r.l.l.r.l.l.r.r.l.l.r.l.l.r.l.l) (y := Cd56.r.r.l.r.l.l.r.l.l.r.r.l.l.r.l.l.r.l.r) (by kernel_rfl) ?_
                      refine EW.region (id := 12) (ops := Cd56.r.r.l.r.l.l.r.l.l.r.r.l.l.r.l.l.r.l.l.ops) (by kernel_rfl) ?_
                      refine EL.quick 1 [4] [(4, .bool (false))] (by kernel_rfl) ?_
                      refine EL.done (by kernel_rfl) ?_
                      refine EQ.code ?_
                      refine EW.ret (by kernel_rfl) ?_
                      refine EQ.ret ?_
                      refine EQ.ret ?_
                      refine EQ.ret ?_
                      refine EQ.ret ?_
                      refine EQ.ret ?_
                      refine EQ.ret ?_
                      refine EQ.ret ?_
                      refine EQ.ret ?_
                      refine EQ.ret ?_
                      obtain rfl := Option.some.inj H
                      exact EQ.leave (.bool (false)) (by kernel_rfl) ⟨_, rfl, rfl, (hS.re [] [] rfl (sub_tail (sub_self)))⟩
                · rw [if_neg h10985] at H
                  refine EW.exit (id := 2) (by kernel_rfl) ?_
                  refine EQ.exitCode ?_
                  refine EQ.exitTo ?_
                  refine EQ.exitHere ?_
                  refine EQ.pop ?_
                  refine EQ.to ?_
                  refine EQ.keep [0, 1, 5] [(0, .slice (some ad10863) l7983.length C7985), (1, .slice (some ad10867) l7986.length C7988), (5, .int .i64 x9993)] (by kernel_rfl) ?_
                  exact fun a ha => ⟨ha, (hS.re [] [] rfl (sub_cons 1 rfl (sub_cons 2 rfl (sub_tail (sub_tail (sub_tail (sub_self))))))), H⟩
            · rw [if_neg h10886] at H
              refine EW.seq (x := Cd56.r.r.l.r.l.l.r.l.l.l.r.l.l) (y := Cd56.r.r.l.r.l.l.r.l.l.l.r.l.r) (by kernel_rfl) ?_
              refine EW.region (id := 7) (ops := Cd56.r.r.l.r.l.l.r.l.l.l.r.l.l.ops) (by kernel_rfl) ?_
              refine EL.quick 1 [4] [(4, .bool (false))] (by kernel_rfl) ?_
              refine EL.done (by kernel_rfl) ?_
              refine EQ.code ?_
              refine EW.ret (by kernel_rfl) ?_
              refine EQ.ret ?_
              refine EQ.ret ?_
              refine EQ.ret ?_
              refine EQ.ret ?_
              refine EQ.ret ?_
              refine EQ.ret ?_
              obtain rfl := Option.some.inj H
              exact EQ.leave (.bool (false)) (by kernel_rfl) ⟨_, rfl, rfl, (hS.re [] [] rfl (sub_self))⟩
        · obtain ⟨ha, hS, H⟩ := hI
          rw [hj10836] at H
          (try dsimp only at H)
          refine EW.at ?_ a ha
          clear ha a
          refine EW.region (id := 5) (ops := Cd56.r.r.l.r.l.l.r.r.ops) (by kernel_rfl) ?_
          refine EL.quick 3 [0, 1, 5] [(0, .slice A7984 l7983.length C7985), (1, .slice A7987 l7986.length C7988), (5, .int .i64 (IntKind.i64.wrap (x9993 + 1)))] (by kernel_rfl) ?_
          refine EL.done (by kernel_rfl) ?_
          refine EQ.to ?_
          refine EQ.keep [0, 1, 5] [(0, .slice A7984 l7983.length C7985), (1, .slice A7987 l7986.length C7988), (5, .int .i64 (IntKind.i64.wrap (x9993 + 1)))] (by kernel_rfl) ?_
          exact fun a ha => ⟨n, Nat.lt_succ_self n, IntKind.i64.wrap (x9993 + 1), ha, (hS.re [] [] rfl (sub_cons 0 rfl (sub_cons 1 rfl (sub_tail (sub_tail (sub_self)))))), H⟩
      · rw [if_neg h10501] at H
        refine EW.exit (id := 0) (by kernel_rfl) ?_
        refine EQ.exitCode ?_
        refine EQ.exitTo ?_
        refine EQ.exitHere ?_
        refine EQ.code ?_
        refine EW.seq (x := Cd56.r.r.r.l) (y := Cd56.r.r.r.r) (by kernel_rfl) ?_
        refine EW.region (id := 13) (ops := Cd56.r.r.r.l.ops) (by kernel_rfl) ?_
        refine EL.quick 1 [4] [(4, .bool (true))] (by kernel_rfl) ?_
        refine EL.done (by kernel_rfl) ?_
        refine EQ.code ?_
        refine EW.ret (by kernel_rfl) ?_
        obtain rfl := Option.some.inj H
        exact EQ.leave (.bool (true)) (by kernel_rfl) ⟨_, rfl, rfl, (hS.re [] [] rfl (sub_self))⟩
  · rw [if_neg h9498] at H
    refine EW.seq (x := Cd56.r.l.r.l.l) (y := Cd56.r.l.r.l.r) (by kernel_rfl) ?_
    refine EW.region (id := 2) (ops := Cd56.r.l.r.l.l.ops) (by kernel_rfl) ?_
    refine EL.quick 1 [4] [(4, .bool (false))] (by kernel_rfl) ?_
    refine EL.done (by kernel_rfl) ?_
    refine EQ.code ?_
    refine EW.ret (by kernel_rfl) ?_
    refine EQ.ret ?_
    obtain rfl := Option.some.inj H
    exact EQ.leave (.bool (false)) (by kernel_rfl) ⟨_, rfl, rfl, (hS.re [] [] rfl (sub_self))⟩

end Go.Proofs.Ytjfnejcanlkknaa.G
