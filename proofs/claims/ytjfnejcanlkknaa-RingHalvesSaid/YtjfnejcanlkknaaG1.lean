import Derived.Test.YtjfnejcanlkknaaG0
namespace Go.Proofs.Ytjfnejcanlkknaa.G
open Go Go.Fw Go.RowKit Go.Proofs
set_option linter.unusedVariables false
set_option linter.unusedSimpArgs false

/-! ### (*confidant/ring.Ring).Half: function 27 -/
def ring_Ring_Half.l0 (K : Nat) (a1001 : Int) (l996 : List S37) (j2212 : Int → Int → (List S37) → Option (Int × Int × List S37)) : Nat → Int → Int → (List S37) → Int → Option (Int × Int × List S37)
  | 0, _, _, _, _ => none
  | n + 1, x2339, x2340, x2341, x2345 => if x2345 < (IntKind.i64.wrap (Int.tdiv (IntKind.i64.wrap (a1001 + 1)) 2)) then (b4 (ring_Ring_Steal.f K l996 x2339 x2340) fun (t2437 : Int) (t2438 : Int) (t2439 : S37) (t2440 : Bool) => (lt ([(⟨t2439.f0, t2439.f1, t2439.f2, t2439.f3, (⟨t2439.f4.f0, t2439.f4.f1, t2439.f4.f2, t2439.f4.f3⟩ : S34), t2439.f5, t2439.f6, t2439.f7, t2439.f8⟩ : S37)] : List S37) fun l2446 => (if (x2341.length + l2446.length) * 96 ≤ 140737488355328 then (lt (x2341 ++ l2446) fun l2448 => (ring_Ring_Half.l0 K a1001 l996 j2212 n t2437 t2438 l2448 (IntKind.i64.wrap (x2345 + 1)))) else none))) else (j2212 x2339 x2340 x2341)
def ring_Ring_Half.f (K : Nat) (l996 : List S37) (a1000 : Int) (a1001 : Int) : Option (Int × Int × List S37) := lt (fun (x2205 : Int) (x2206 : Int) (x2207 : List S37) => (some (x2205, x2206, x2207))) fun j2212 => (ring_Ring_Half.l0 K a1001 l996 j2212 K a1000 a1001 ([] : List S37) 0)
set_option maxRecDepth 100000 in
theorem ring_Ring_Half.calls {K : Nat} {l996 : List S37} {a1000 : Int} {a1001 : Int} {g995 : Nat} {A997 : Option Addr} {C998 : Nat} {x1724 : Int} {x1725 : Int} {x1726 : List S37} {B w : World} {os : List Ass} {rs : List Ro} (H : ring_Ring_Half.f K l996 a1000 a1001 = some (x1724, x1725, x1726)) (hS : St B w (Ass.box 90 g995 [.slice A997 l996.length C998, .int .i64 a1000, .int .i64 a1001] :: Ass.own 37 kS37 A997 C998 l996 :: os) (rs)) :
    Calls Try.prog 27 [.pointer (some ⟨g995, 0, none⟩)].toArray w (fun en w' => ∃ v, en = .returned v ∧ ∃ A1727 : Option Addr, ∃ C1728 : Nat, v = .slice A1727 x1726.length C1728 ∧ St B w' (Ass.box 90 g995 [.slice A997 l996.length C998, .int .i64 x1724, .int .i64 x1725] :: Ass.own 37 kS37 A997 C998 l996 :: Ass.own 37 kS37 A1727 C1728 x1726 :: os) (rs)) := by
  unfold ring_Ring_Half.f at H
  refine calls_of_EW (args := [.pointer (some ⟨g995, 0, none⟩)]) (c := Cd27) 12 Try.func27 (by kernel_rfl) (by kernel_rfl) (by kernel_rfl) ?_
  refine EW.seq (x := Cd27.l) (y := Cd27.r) (by kernel_rfl) ?_
  refine EW.region (id := 0) (ops := Cd27.l.ops) (by kernel_rfl) ?_
  refine EL.quick 1 [0] [(0, .pointer (some ⟨g995, 0, none⟩))] (by kernel_rfl) ?_
  refine EL.done (by kernel_rfl) ?_
  refine EQ.code ?_
  refine EW.seq (x := Cd27.r.l) (y := Cd27.r.r) (by kernel_rfl) ?_
  refine EW.region (id := 1) (ops := Cd27.r.l.ops) (by kernel_rfl) ?_
  refine EL.quick 3 [0, 5] [(0, .pointer (some ⟨g995, 0, none⟩)), (5, .pointer (some ⟨g995, 2, none⟩))] (by kernel_rfl) ?_
  refine EL.of (EO.Y (YO.loadBox hS 0 rfl 3 2 1 (.int .i64 a1001) 6 (by kernel_rfl) (by kernel_rfl) (by kernel_rfl) (by kernel_rfl)) ?_)
  refine EL.quick 4 [8, 10] [(8, .int .i64 (IntKind.i64.wrap (Int.tdiv (IntKind.i64.wrap (a1001 + 1)) 2))), (10, .func (.func 24) #[.pointer (some ⟨g995, 0, none⟩)] #[])] (by kernel_rfl) ?_
  obtain ⟨j2212, hj2212, H⟩ := lt_out H
  refine EL.of (EO.callD 61 [.int .i64 (IntKind.i64.wrap (Int.tdiv (IntKind.i64.wrap (a1001 + 1)) 2)), .func (.func 24) #[.pointer (some ⟨g995, 0, none⟩)] #[]] (fun v w => ∃ x2205 : Int, ∃ x2206 : Int, ∃ x2207 : List S37, ∃ A2208 : Option Addr, ∃ C2209 : Nat, v = .slice A2208 x2207.length C2209 ∧ St B w (Ass.box 90 g995 [.slice A997 l996.length C998, .int .i64 x2205, .int .i64 x2206] :: Ass.own 37 kS37 A997 C998 l996 :: Ass.own 37 kS37 A2208 C2209 x2207 :: os) (rs) ∧ j2212 x2205 x2206 x2207 = some (x1724, x1725, x1726)) 11 (by kernel_rfl) (by kernel_rfl) (by kernel_rfl) ?_ ?_)
  · refine calls_of_EW (args := [.int .i64 (IntKind.i64.wrap (Int.tdiv (IntKind.i64.wrap (a1001 + 1)) 2)), .func (.func 24) #[.pointer (some ⟨g995, 0, none⟩)] #[]]) (c := Cd61) 22 Try.func61 (by kernel_rfl) (by kernel_rfl) (by kernel_rfl) ?_
    refine EW.seq (x := Cd61.l) (y := Cd61.r) (by kernel_rfl) ?_
    refine EW.region (id := 0) (ops := Cd61.l.ops) (by kernel_rfl) ?_
    refine EL.quick 1 [0, 1] [(0, .int .i64 (IntKind.i64.wrap (Int.tdiv (IntKind.i64.wrap (a1001 + 1)) 2))), (1, .func (.func 24) #[.pointer (some ⟨g995, 0, none⟩)] #[])] (by kernel_rfl) ?_
    refine EL.done (by kernel_rfl) ?_
    refine EQ.code ?_
    refine EW.seq (x := Cd61.r.l) (y := Cd61.r.r) (by kernel_rfl) ?_
    refine EW.region (id := 1) (ops := Cd61.r.l.ops) (by kernel_rfl) ?_
    refine EL.quick 1 [0, 1, 5] [(0, .int .i64 (IntKind.i64.wrap (Int.tdiv (IntKind.i64.wrap (a1001 + 1)) 2))), (1, .func (.func 24) #[.pointer (some ⟨g995, 0, none⟩)] #[]), (5, .slice none ([] : List S37).length 0)] (by kernel_rfl) ?_
    refine EL.done (by kernel_rfl) ?_
    refine EQ.code ?_
    refine EW.seq (x := Cd61.r.r.l) (y := Cd61.r.r.r) (by kernel_rfl) ?_
    refine EW.seq (x := Cd61.r.r.l.l) (y := Cd61.r.r.l.r) (by kernel_rfl) ?_
    refine EW.region (id := 2) (ops := Cd61.r.r.l.l.ops) (by kernel_rfl) ?_
    refine EL.quick 2 [1, 5, 8, 9] [(1, .func (.func 24) #[.pointer (some ⟨g995, 0, none⟩)] #[]), (5, .slice none ([] : List S37).length 0), (8, .int .i64 (IntKind.i64.wrap (Int.tdiv (IntKind.i64.wrap (a1001 + 1)) 2))), (9, .int .i64 0)] (by kernel_rfl) ?_
    refine EL.done (by kernel_rfl) ?_
    refine EQ.code ?_
    refine EW.block (x := Cd61.r.r.l.r.l) (id := 0) (by kernel_rfl) ?_
    have hS := St.nilO hS 37 kS37
    refine EW.loop (x := Cd61.r.r.l.r.l.l) (fun n a w => ∃ x2339 : Int, ∃ x2340 : Int, ∃ x2341 : List S37, ∃ x2345 : Int, ∃ A2342 : Option Addr, ∃ C2343 : Nat, Sat 22 [(1, .func (.func 24) #[.pointer (some ⟨g995, 0, none⟩)] #[]), (5, .slice A2342 x2341.length C2343), (8, .int .i64 (IntKind.i64.wrap (Int.tdiv (IntKind.i64.wrap (a1001 + 1)) 2))), (9, .int .i64 x2345)] a ∧ St B w (Ass.box 90 g995 [.slice A997 l996.length C998, .int .i64 x2339, .int .i64 x2340] :: Ass.own 37 kS37 A997 C998 l996 :: Ass.own 37 kS37 A2342 C2343 x2341 :: os) (rs) ∧ ring_Ring_Half.l0 K a1001 l996 j2212 n x2339 x2340 x2341 x2345 = some (x1724, x1725, x1726)) K (by kernel_rfl) ?_ (fun n a w hI => ?_)
    · refine EQ.keep [1, 5, 8, 9] [(1, .func (.func 24) #[.pointer (some ⟨g995, 0, none⟩)] #[]), (5, .slice none ([] : List S37).length 0), (8, .int .i64 (IntKind.i64.wrap (Int.tdiv (IntKind.i64.wrap (a1001 + 1)) 2))), (9, .int .i64 0)] (by kernel_rfl) ?_
      exact fun a ha => ⟨a1000, a1001, ([] : List S37), 0, none, 0, ha, (hS.re [0, 2, 2] [] rfl (sub_self)), H⟩
    · obtain ⟨x2339, x2340, x2341, x2345, A2342, C2343, ha, hS, H⟩ := hI
      obtain _ | n := n
      · simp [ring_Ring_Half.l0] at H
      rw [ring_Ring_Half.l0.eq_2] at H
      refine EW.at ?_ a ha
      clear ha a
      refine EW.seq (x := Cd61.r.r.l.r.l.l.l) (y := Cd61.r.r.l.r.l.l.r) (by kernel_rfl) ?_
      refine EW.region (id := 3) (ops := Cd61.r.r.l.r.l.l.l.ops) (by kernel_rfl) ?_
      refine EL.quick 1 [1, 5, 8, 9, 10] [(1, .func (.func 24) #[.pointer (some ⟨g995, 0, none⟩)] #[]), (5, .slice A2342 x2341.length C2343), (8, .int .i64 (IntKind.i64.wrap (Int.tdiv (IntKind.i64.wrap (a1001 + 1)) 2))), (9, .int .i64 x2345), (10, .bool (decide (x2345 < (IntKind.i64.wrap (Int.tdiv (IntKind.i64.wrap (a1001 + 1)) 2)))))] (by kernel_rfl) ?_
      refine EL.done (by kernel_rfl) ?_
      refine EQ.code ?_
      refine EW.seq (x := Cd61.r.r.l.r.l.l.r.l) (y := Cd61.r.r.l.r.l.l.r.r) (by kernel_rfl) ?_
      refine EW.condP (o := (.tmp 10)) (x := Cd61.r.r.l.r.l.l.r.l.l) (y := Cd61.r.r.l.r.l.l.r.l.r) (x2345 < (IntKind.i64.wrap (Int.tdiv (IntKind.i64.wrap (a1001 + 1)) 2))) (by kernel_rfl) (by kernel_rfl) (fun h2406 => ?_) (fun h2406 => ?_)
      · rw [if_pos h2406] at H
        refine EW.skip (by kernel_rfl) ?_
        refine EQ.code ?_
        refine EW.seq (x := Cd61.r.r.l.r.l.l.r.r.l) (y := Cd61.r.r.l.r.l.l.r.r.r) (by kernel_rfl) ?_
        refine EW.block (x := Cd61.r.r.l.r.l.l.r.r.l.l) (id := 1) (by kernel_rfl) ?_
        refine EW.seq (x := Cd61.r.r.l.r.l.l.r.r.l.l.l) (y := Cd61.r.r.l.r.l.l.r.r.l.l.r) (by kernel_rfl) ?_
        refine EW.region (id := 4) (ops := Cd61.r.r.l.r.l.l.r.r.l.l.l.ops) (by kernel_rfl) ?_
        refine EL.quick 1 [1, 5, 8, 9, 12] [(1, .func (.func 24) #[.pointer (some ⟨g995, 0, none⟩)] #[]), (5, .slice A2342 x2341.length C2343), (8, .int .i64 (IntKind.i64.wrap (Int.tdiv (IntKind.i64.wrap (a1001 + 1)) 2))), (9, .int .i64 x2345), (12, .func (.func 24) #[.pointer (some ⟨g995, 0, none⟩)] #[])] (by kernel_rfl) ?_
        obtain ⟨t2437, t2438, t2439, t2440, hc2443, H⟩ := b4_out H
        refine EL.of (EO.callD 24 [.pointer (some ⟨g995, 0, none⟩)] _ 13 (by kernel_rfl) (by kernel_rfl) (by kernel_rfl) (ring_Ring_Steal.calls hc2443 hS) ?_)
        rintro v w ⟨A2441, C2442, rfl, hS⟩
        refine EL.quick 3 [1, 5, 8, 9, 14, 15] [(1, .func (.func 24) #[.pointer (some ⟨g995, 0, none⟩)] #[]), (5, .slice A2342 x2341.length C2343), (8, .int .i64 (IntKind.i64.wrap (Int.tdiv (IntKind.i64.wrap (a1001 + 1)) 2))), (9, .int .i64 x2345), (14, .agg #[.int .i32 t2439.f0, .int .i64 t2439.f1, .int .i64 t2439.f2, .slice A2441 t2439.f3.length C2442, .int .i32 t2439.f4.f0, .int .i32 t2439.f4.f1, .int .i32 t2439.f4.f2, .int .i32 t2439.f4.f3, .int .i64 t2439.f5, .int .i64 t2439.f6, .int .u32 t2439.f7, .int .i64 t2439.f8]), (15, .bool (t2440))] (by kernel_rfl) ?_
        refine EL.of (EO.alloc hS 37 (.agg #[.int .i32 0, .int .i64 0, .int .i64 0, .slice none ([] : List Int).length 0, .int .i32 0, .int .i32 0, .int .i32 0, .int .i32 0, .int .i64 0, .int .i64 0, .int .u32 0, .int .i64 0]) [.int .i32 0, .int .i64 0, .int .i64 0, .slice none ([] : List Int).length 0, .int .i32 0, .int .i32 0, .int .i32 0, .int .i32 0, .int .i64 0, .int .i64 0, .int .u32 0, .int .i64 0] 6 (by kernel_rfl) (by kernel_rfl) (by kernel_rfl) (by kernel_rfl) (by first | rfl | kernel_rfl) ?_)
        intro g2444 w hS
        refine EL.of (EO.storeBox (os' := Ass.box 37 g2444 [.int .i32 t2439.f0, .int .i64 t2439.f1, .int .i64 t2439.f2, .slice A2441 t2439.f3.length C2442, .int .i32 t2439.f4.f0, .int .i32 t2439.f4.f1, .int .i32 t2439.f4.f2, .int .i32 t2439.f4.f3, .int .i64 t2439.f5, .int .i64 t2439.f6, .int .u32 t2439.f7, .int .i64 t2439.f8] :: Ass.box 90 g995 [.slice A997 l996.length C998, .int .i64 t2437, .int .i64 t2438] :: Ass.own 37 kS37 A997 C998 l996 :: Ass.own 37 kS37 A2342 C2343 x2341 :: os) hS 0 rfl 37 0 (.agg #[.int .i32 t2439.f0, .int .i64 t2439.f1, .int .i64 t2439.f2, .slice A2441 t2439.f3.length C2442, .int .i32 t2439.f4.f0, .int .i32 t2439.f4.f1, .int .i32 t2439.f4.f2, .int .i32 t2439.f4.f3, .int .i64 t2439.f5, .int .i64 t2439.f6, .int .u32 t2439.f7, .int .i64 t2439.f8]) [.int .i32 t2439.f0, .int .i64 t2439.f1, .int .i64 t2439.f2, .slice A2441 t2439.f3.length C2442, .int .i32 t2439.f4.f0, .int .i32 t2439.f4.f1, .int .i32 t2439.f4.f2, .int .i32 t2439.f4.f3, .int .i64 t2439.f5, .int .i64 t2439.f6, .int .u32 t2439.f7, .int .i64 t2439.f8] (by kernel_rfl) (by kernel_rfl) (by kernel_rfl) (by kernel_rfl) (by kernel_rfl) (by kernel_rfl) rfl rfl ?_)
        intro w hS
        refine EL.quick 1 [1, 5, 6, 8, 9] [(1, .func (.func 24) #[.pointer (some ⟨g995, 0, none⟩)] #[]), (5, .slice A2342 x2341.length C2343), (6, .pointer (some ⟨g2444, 0, none⟩)), (8, .int .i64 (IntKind.i64.wrap (Int.tdiv (IntKind.i64.wrap (a1001 + 1)) 2))), (9, .int .i64 x2345)] (by kernel_rfl) ?_
        refine EL.done (by kernel_rfl) ?_
        refine EQ.code ?_
        refine EW.region (id := 5) (ops := Cd61.r.r.l.r.l.l.r.r.l.l.r.ops) (by kernel_rfl) ?_
        refine EL.quick 1 [1, 6, 8, 9, 16] [(1, .func (.func 24) #[.pointer (some ⟨g995, 0, none⟩)] #[]), (6, .pointer (some ⟨g2444, 0, none⟩)), (8, .int .i64 (IntKind.i64.wrap (Int.tdiv (IntKind.i64.wrap (a1001 + 1)) 2))), (9, .int .i64 x2345), (16, .slice A2342 x2341.length C2343)] (by kernel_rfl) ?_
        refine EL.of (EO.Y (YO.loadBox hS 0 rfl 37 0 12 (.agg #[.int .i32 t2439.f0, .int .i64 t2439.f1, .int .i64 t2439.f2, .slice A2441 t2439.f3.length C2442, .int .i32 t2439.f4.f0, .int .i32 t2439.f4.f1, .int .i32 t2439.f4.f2, .int .i32 t2439.f4.f3, .int .i64 t2439.f5, .int .i64 t2439.f6, .int .u32 t2439.f7, .int .i64 t2439.f8]) 17 (by kernel_rfl) (by kernel_rfl) (by kernel_rfl) (by kernel_rfl)) ?_)
        obtain ⟨l2446, hl2446, H⟩ := lt_out H
        refine EL.of (EO.lit hS kS37 37 30 1 #[(0, .agg #[.int .i32 t2439.f0, .int .i64 t2439.f1, .int .i64 t2439.f2, .slice A2441 t2439.f3.length C2442, .int .i32 t2439.f4.f0, .int .i32 t2439.f4.f1, .int .i32 t2439.f4.f2, .int .i32 t2439.f4.f3, .int .i64 t2439.f5, .int .i64 t2439.f6, .int .u32 t2439.f7, .int .i64 t2439.f8])] [.int .i32 t2439.f0, .int .i64 t2439.f1, .int .i64 t2439.f2, .slice A2441 t2439.f3.length C2442, .int .i32 t2439.f4.f0, .int .i32 t2439.f4.f1, .int .i32 t2439.f4.f2, .int .i32 t2439.f4.f3, .int .i64 t2439.f5, .int .i64 t2439.f6, .int .u32 t2439.f7, .int .i64 t2439.f8] l2446 18 (by kernel_rfl) (by kernel_rfl) (by kernel_rfl) (fun _ => (by kernel_rfl)) (by rw [hl2446]; rfl) (by kernel_rfl) (fun w G hr => (by rw [hl2446]; exact ⟨[.int .i32 t2439.f0, .int .i64 t2439.f1, .int .i64 t2439.f2, .slice A2441 t2439.f3.length C2442, .int .i32 t2439.f4.f0, .int .i32 t2439.f4.f1, .int .i32 t2439.f4.f2, .int .i32 t2439.f4.f3, .int .i64 t2439.f5, .int .i64 t2439.f6, .int .u32 t2439.f7, .int .i64 t2439.f8], [], rfl, ⟨[.int .i32 t2439.f0], [.int .i64 t2439.f1, .int .i64 t2439.f2, .slice A2441 t2439.f3.length C2442, .int .i32 t2439.f4.f0, .int .i32 t2439.f4.f1, .int .i32 t2439.f4.f2, .int .i32 t2439.f4.f3, .int .i64 t2439.f5, .int .i64 t2439.f6, .int .u32 t2439.f7, .int .i64 t2439.f8], rfl, rfl, ⟨[.int .i64 t2439.f1], [.int .i64 t2439.f2, .slice A2441 t2439.f3.length C2442, .int .i32 t2439.f4.f0, .int .i32 t2439.f4.f1, .int .i32 t2439.f4.f2, .int .i32 t2439.f4.f3, .int .i64 t2439.f5, .int .i64 t2439.f6, .int .u32 t2439.f7, .int .i64 t2439.f8], rfl, rfl, ⟨[.int .i64 t2439.f2], [.slice A2441 t2439.f3.length C2442, .int .i32 t2439.f4.f0, .int .i32 t2439.f4.f1, .int .i32 t2439.f4.f2, .int .i32 t2439.f4.f3, .int .i64 t2439.f5, .int .i64 t2439.f6, .int .u32 t2439.f7, .int .i64 t2439.f8], rfl, rfl, ⟨[.slice A2441 t2439.f3.length C2442], [.int .i32 t2439.f4.f0, .int .i32 t2439.f4.f1, .int .i32 t2439.f4.f2, .int .i32 t2439.f4.f3, .int .i64 t2439.f5, .int .i64 t2439.f6, .int .u32 t2439.f7, .int .i64 t2439.f8], rfl, (hr _ (List.mem_of_getElem? (i := 0) rfl)), ⟨[.int .i32 t2439.f4.f0, .int .i32 t2439.f4.f1, .int .i32 t2439.f4.f2, .int .i32 t2439.f4.f3], [.int .i64 t2439.f5, .int .i64 t2439.f6, .int .u32 t2439.f7, .int .i64 t2439.f8], rfl, ⟨[.int .i32 t2439.f4.f0], [.int .i32 t2439.f4.f1, .int .i32 t2439.f4.f2, .int .i32 t2439.f4.f3], rfl, rfl, ⟨[.int .i32 t2439.f4.f1], [.int .i32 t2439.f4.f2, .int .i32 t2439.f4.f3], rfl, rfl, ⟨[.int .i32 t2439.f4.f2], [.int .i32 t2439.f4.f3], rfl, rfl, ⟨[.int .i32 t2439.f4.f3], [], rfl, rfl, rfl⟩⟩⟩⟩, ⟨[.int .i64 t2439.f5], [.int .i64 t2439.f6, .int .u32 t2439.f7, .int .i64 t2439.f8], rfl, rfl, ⟨[.int .i64 t2439.f6], [.int .u32 t2439.f7, .int .i64 t2439.f8], rfl, rfl, ⟨[.int .u32 t2439.f7], [.int .i64 t2439.f8], rfl, rfl, ⟨[.int .i64 t2439.f8], [], rfl, rfl, rfl⟩⟩⟩⟩⟩⟩⟩⟩⟩, rfl⟩)) ?_)
        intro g2445 w hS
        obtain ⟨h2447, H⟩ := ite_in H
        obtain ⟨l2448, hl2448, H⟩ := lt_out H
        refine EL.of (EO.append hS 30 30 37 96 4 kS37 A2342 C2343 x2341 rfl (some ⟨g2445, 0, none⟩) 1 l2446 (Rd.own 0 37 rfl) l2448 hl2448 (fun A2449 C2450 => Ass.own 37 kS37 (some ⟨g2445, 0, none⟩) 1 l2446 :: Ass.box 37 g2444 [.int .i32 t2439.f0, .int .i64 t2439.f1, .int .i64 t2439.f2, .slice A2441 t2439.f3.length C2442, .int .i32 t2439.f4.f0, .int .i32 t2439.f4.f1, .int .i32 t2439.f4.f2, .int .i32 t2439.f4.f3, .int .i64 t2439.f5, .int .i64 t2439.f6, .int .u32 t2439.f7, .int .i64 t2439.f8] :: Ass.box 90 g995 [.slice A997 l996.length C998, .int .i64 t2437, .int .i64 t2438] :: Ass.own 37 kS37 A997 C998 l996 :: Ass.own 37 kS37 A2449 C2450 l2448 :: os) 19 (by kernel_rfl) (by kernel_rfl) (by kernel_rfl) (by kernel_rfl) h2447 (fun _ _ => rfl) ?_)
        intro A2449 C2450 w hS
        refine EL.quick 1 [1, 5, 8, 9] [(1, .func (.func 24) #[.pointer (some ⟨g995, 0, none⟩)] #[]), (5, .slice A2449 l2448.length C2450), (8, .int .i64 (IntKind.i64.wrap (Int.tdiv (IntKind.i64.wrap (a1001 + 1)) 2))), (9, .int .i64 x2345)] (by kernel_rfl) ?_
        refine EL.done (by kernel_rfl) ?_
        refine EQ.pop ?_
        refine EQ.code ?_
        refine EW.region (id := 6) (ops := Cd61.r.r.l.r.l.l.r.r.r.ops) (by kernel_rfl) ?_
        refine EL.quick 2 [1, 5, 8, 9] [(1, .func (.func 24) #[.pointer (some ⟨g995, 0, none⟩)] #[]), (5, .slice A2449 l2448.length C2450), (8, .int .i64 (IntKind.i64.wrap (Int.tdiv (IntKind.i64.wrap (a1001 + 1)) 2))), (9, .int .i64 (IntKind.i64.wrap (x2345 + 1)))] (by kernel_rfl) ?_
        refine EL.done (by kernel_rfl) ?_
        refine EQ.to ?_
        refine EQ.keep [1, 5, 8, 9] [(1, .func (.func 24) #[.pointer (some ⟨g995, 0, none⟩)] #[]), (5, .slice A2449 l2448.length C2450), (8, .int .i64 (IntKind.i64.wrap (Int.tdiv (IntKind.i64.wrap (a1001 + 1)) 2))), (9, .int .i64 (IntKind.i64.wrap (x2345 + 1)))] (by kernel_rfl) ?_
        exact fun a ha => ⟨n, Nat.lt_succ_self n, t2437, t2438, l2448, IntKind.i64.wrap (x2345 + 1), A2449, C2450, ha, (hS.re [4, 4, 4] [3, 3] rfl (sub_tail (sub_self))), H⟩
      · rw [if_neg h2406] at H
        refine EW.exit (id := 0) (by kernel_rfl) ?_
        refine EQ.exitCode ?_
        refine EQ.exitTo ?_
        refine EQ.exitHere ?_
        refine EQ.code ?_
        refine EW.seq (x := Cd61.r.r.r.l) (y := Cd61.r.r.r.r) (by kernel_rfl) ?_
        refine EW.region (id := 7) (ops := Cd61.r.r.r.l.ops) (by kernel_rfl) ?_
        refine EL.quick 2 [4] [(4, .slice A2342 x2341.length C2343)] (by kernel_rfl) ?_
        refine EL.done (by kernel_rfl) ?_
        refine EQ.code ?_
        refine EW.ret (by kernel_rfl) ?_
        exact EQ.leave (.slice A2342 x2341.length C2343) (by kernel_rfl) ⟨_, rfl, x2339, x2340, x2341, A2342, C2343, rfl, (hS.re [2, 2, 2] [] rfl (sub_self)), H⟩
  · rintro v w ⟨x2205, x2206, x2207, A2208, C2209, rfl, hS, H⟩
    rw [hj2212] at H
    (try dsimp only at H)
    refine EL.quick 1 [2] [(2, .slice A2208 x2207.length C2209)] (by kernel_rfl) ?_
    refine EL.done (by kernel_rfl) ?_
    refine EQ.code ?_
    refine EW.ret (by kernel_rfl) ?_
    simp only [Option.some.injEq, Prod.mk.injEq] at H
    obtain ⟨rfl, rfl, rfl⟩ := H
    exact EQ.leave (.slice A2208 x2207.length C2209) (by kernel_rfl) ⟨_, rfl, A2208, C2209, rfl, (hS.re [2, 2, 2] [] rfl (sub_self))⟩

/-! ### confidant/confidantlaw15.known: function 15 -/
def confidantlaw15_known.f (K : Nat)  : Option Bool := b3 (ring_New.f K 3) fun (t2472 : List S37) (t2473 : Int) (t2474 : Int) => (b4 (ring_Ring_Push.f K t2472 t2473 t2474 1 0 0 ([] : List Int) 0 0 0 0 0 0 0 0) fun (t2507 : List S37) (t2508 : Int) (t2509 : Int) (t2510 : Bool) => (b4 (ring_Ring_Push.f K t2507 t2508 t2509 2 0 0 ([] : List Int) 0 0 0 0 0 0 0 0) fun (t2514 : List S37) (t2515 : Int) (t2516 : Int) (t2517 : Bool) => (b4 (ring_Ring_Push.f K t2514 t2515 t2516 3 0 0 ([] : List Int) 0 0 0 0 0 0 0 0) fun (t2521 : List S37) (t2522 : Int) (t2523 : Int) (t2524 : Bool) => (b4 (ring_Ring_Push.f K t2521 t2522 t2523 4 0 0 ([] : List Int) 0 0 0 0 0 0 0 0) fun (t2528 : List S37) (t2529 : Int) (t2530 : Int) (t2531 : Bool) => (b4 (ring_Ring_Pop.f K t2528 t2529 t2530) fun (t2543 : Int) (t2544 : Int) (t2545 : S37) (t2546 : Bool) => (b4 (ring_Ring_Steal.f K t2528 t2543 t2544) fun (t2559 : Int) (t2560 : Int) (t2561 : S37) (t2562 : Bool) => (if t2510 = true then (if t2517 = true then (if t2524 = true then (if t2531 = true then (some false) else (if t2546 = true then (if t2545.f0 = 3 then (if t2562 = true then (if t2561.f0 = 1 then (b3 (ring_Ring_Len.f K t2528 t2559 t2560) fun (t2575 : Int) (t2576 : Int) (t2577 : Int) => (if t2577 = 1 then (b3 (ring_Ring_Room.f K t2528 t2575 t2576) fun (t2580 : Int) (t2581 : Int) (t2582 : Int) => (if t2582 = 3 then (b3 (ring_Ring_All.f K t2528 t2580 t2581) fun (t2585 : Int) (t2586 : Int) (t2587 : List S37) => (if (t2587.length : Int) = 1 then (b3 (ring_Ring_Half.f K t2528 t2585 t2586) fun (t2592 : Int) (t2593 : Int) (t2594 : List S37) => (if (t2594.length : Int) = 1 then (b3 (ring_Ring_Half.f K t2528 t2592 t2593) fun (t2599 : Int) (t2600 : Int) (t2601 : List S37) => (some (decide ((t2601.length : Int) = 0)))) else (some false))) else (some false))) else (some false))) else (some false))) else (some false)) else (some false)) else (some false)) else (some false))) else (some false)) else (some false)) else (some false))))))))
set_option maxRecDepth 100000 in
theorem confidantlaw15_known.calls {K : Nat} {x2464 : Bool} {B w : World} {os : List Ass} {rs : List Ro} (H : confidantlaw15_known.f K = some x2464) (hS : St B w (os) (rs)) :
    Calls Try.prog 15 [].toArray w (fun en w' => ∃ v, en = .returned v ∧ v = .bool (x2464) ∧ St B w' (os) (rs)) := by
  unfold confidantlaw15_known.f at H
  refine calls_of_EW (args := []) (c := Cd15) 90 Try.func15 (by kernel_rfl) (by kernel_rfl) (by kernel_rfl) ?_
  refine EW.seq (x := Cd15.l) (y := Cd15.r) (by kernel_rfl) ?_
  refine EW.region (id := 0) (ops := Cd15.l.ops) (by kernel_rfl) ?_
  refine EL.quick 1 [] [] (by kernel_rfl) ?_
  refine EL.done (by kernel_rfl) ?_
  refine EQ.code ?_
  refine EW.seq (x := Cd15.r.l) (y := Cd15.r.r) (by kernel_rfl) ?_
  refine EW.region (id := 1) (ops := Cd15.r.l.ops) (by kernel_rfl) ?_
  obtain ⟨t2472, t2473, t2474, hc2478, H⟩ := b3_out H
  refine EL.of (EO.callD 16 [.int .i64 3] _ 10 (by kernel_rfl) (by kernel_rfl) (by kernel_rfl) (ring_New.calls hc2478 hS) ?_)
  rintro v w ⟨g2475, A2476, C2477, rfl, hS⟩
  refine EL.quick 1 [1] [(1, .pointer (some ⟨g2475, 0, none⟩))] (by kernel_rfl) ?_
  refine EL.done (by kernel_rfl) ?_
  refine EQ.code ?_
  refine EW.seq (x := Cd15.r.r.l) (y := Cd15.r.r.r) (by kernel_rfl) ?_
  refine EW.seq (x := Cd15.r.r.l.l) (y := Cd15.r.r.l.r) (by kernel_rfl) ?_
  refine EW.region (id := 2) (ops := Cd15.r.r.l.l.ops) (by kernel_rfl) ?_
  refine EL.quick 2 [1, 12] [(1, .pointer (some ⟨g2475, 0, none⟩)), (12, .bool (false))] (by kernel_rfl) ?_
  refine EL.done (by kernel_rfl) ?_
  refine EQ.code ?_
  refine EW.condF (o := (.tmp 12)) (x := Cd15.r.r.l.r.l) (y := Cd15.r.r.l.r.r) (by kernel_rfl) (by kernel_rfl) ?_
  refine EW.skip (by kernel_rfl) ?_
  refine EQ.code ?_
  refine EW.seq (x := Cd15.r.r.r.l) (y := Cd15.r.r.r.r) (by kernel_rfl) ?_
  refine EW.region (id := 4) (ops := Cd15.r.r.r.l.ops) (by kernel_rfl) ?_
  refine EL.quick 2 [1, 13, 14] [(1, .pointer (some ⟨g2475, 0, none⟩)), (13, .pointer (some ⟨g2475, 0, none⟩)), (14, .agg #[.int .i32 1, .int .i64 0, .int .i64 0, .slice none ([] : List Int).length 0, .int .i32 0, .int .i32 0, .int .i32 0, .int .i32 0, .int .i64 0, .int .i64 0, .int .u32 0, .int .i64 0])] (by kernel_rfl) ?_
  have hS := St.nilR hS (Kd.int .i32)
  have hS : St B _ (Ass.box 90 g2475 [.slice A2476 t2472.length C2477, .int .i64 t2473, .int .i64 t2474] :: Ass.own 37 kS37 A2476 C2477 t2472 :: os) (Ro.sl (Kd.int .i32) none 0 ([] : List Int) :: Ro.sl (Kd.int .i32) none 0 ([] : List Int) :: rs) := hS.re [1, 1] [] rfl (sub_cons 0 rfl sub_self)
  obtain ⟨t2507, t2508, t2509, t2510, hc2513, H⟩ := b4_out H
  refine EL.of (EO.callD 19 [.pointer (some ⟨g2475, 0, none⟩), .agg #[.int .i32 1, .int .i64 0, .int .i64 0, .slice none ([] : List Int).length 0, .int .i32 0, .int .i32 0, .int .i32 0, .int .i32 0, .int .i64 0, .int .i64 0, .int .u32 0, .int .i64 0]] _ 15 (by kernel_rfl) (by kernel_rfl) (by kernel_rfl) (ring_Ring_Push.calls hc2513 hS) ?_)
  rintro v w ⟨A2511, C2512, rfl, hS⟩
  refine EL.quick 2 [1, 15, 16, 17] [(1, .pointer (some ⟨g2475, 0, none⟩)), (15, .bool (t2510)), (16, .pointer (some ⟨g2475, 0, none⟩)), (17, .agg #[.int .i32 2, .int .i64 0, .int .i64 0, .slice none ([] : List Int).length 0, .int .i32 0, .int .i32 0, .int .i32 0, .int .i32 0, .int .i64 0, .int .i64 0, .int .u32 0, .int .i64 0])] (by kernel_rfl) ?_
  have hS : St B _ (Ass.box 90 g2475 [.slice A2511 t2507.length C2512, .int .i64 t2508, .int .i64 t2509] :: Ass.own 37 kS37 A2511 C2512 t2507 :: os) (Ro.sl (Kd.int .i32) none 0 ([] : List Int) :: Ro.sl (Kd.int .i32) none 0 ([] : List Int) :: Ro.sl (Kd.int .i32) none 0 ([] : List Int) :: rs) := hS.re [1, 1] [] rfl (sub_cons 0 rfl sub_self)
  obtain ⟨t2514, t2515, t2516, t2517, hc2520, H⟩ := b4_out H
  refine EL.of (EO.callD 19 [.pointer (some ⟨g2475, 0, none⟩), .agg #[.int .i32 2, .int .i64 0, .int .i64 0, .slice none ([] : List Int).length 0, .int .i32 0, .int .i32 0, .int .i32 0, .int .i32 0, .int .i64 0, .int .i64 0, .int .u32 0, .int .i64 0]] _ 18 (by kernel_rfl) (by kernel_rfl) (by kernel_rfl) (ring_Ring_Push.calls hc2520 hS) ?_)
  rintro v w ⟨A2518, C2519, rfl, hS⟩
  refine EL.quick 2 [1, 15, 18, 19, 20] [(1, .pointer (some ⟨g2475, 0, none⟩)), (15, .bool (t2510)), (18, .bool (t2517)), (19, .pointer (some ⟨g2475, 0, none⟩)), (20, .agg #[.int .i32 3, .int .i64 0, .int .i64 0, .slice none ([] : List Int).length 0, .int .i32 0, .int .i32 0, .int .i32 0, .int .i32 0, .int .i64 0, .int .i64 0, .int .u32 0, .int .i64 0])] (by kernel_rfl) ?_
  have hS : St B _ (Ass.box 90 g2475 [.slice A2518 t2514.length C2519, .int .i64 t2515, .int .i64 t2516] :: Ass.own 37 kS37 A2518 C2519 t2514 :: os) (Ro.sl (Kd.int .i32) none 0 ([] : List Int) :: Ro.sl (Kd.int .i32) none 0 ([] : List Int) :: Ro.sl (Kd.int .i32) none 0 ([] : List Int) :: Ro.sl (Kd.int .i32) none 0 ([] : List Int) :: rs) := hS.re [1, 1] [] rfl (sub_cons 0 rfl sub_self)
  obtain ⟨t2521, t2522, t2523, t2524, hc2527, H⟩ := b4_out H
  refine EL.of (EO.callD 19 [.pointer (some ⟨g2475, 0, none⟩), .agg #[.int .i32 3, .int .i64 0, .int .i64 0, .slice none ([] : List Int).length 0, .int .i32 0, .int .i32 0, .int .i32 0, .int .i32 0, .int .i64 0, .int .i64 0, .int .u32 0, .int .i64 0]] _ 21 (by kernel_rfl) (by kernel_rfl) (by kernel_rfl) (ring_Ring_Push.calls hc2527 hS) ?_)
  rintro v w ⟨A2525, C2526, rfl, hS⟩
  refine EL.quick 2 [1, 15, 18, 21, 22, 23] [(1, .pointer (some ⟨g2475, 0, none⟩)), (15, .bool (t2510)), (18, .bool (t2517)), (21, .bool (t2524)), (22, .pointer (some ⟨g2475, 0, none⟩)), (23, .agg #[.int .i32 4, .int .i64 0, .int .i64 0, .slice none ([] : List Int).length 0, .int .i32 0, .int .i32 0, .int .i32 0, .int .i32 0, .int .i64 0, .int .i64 0, .int .u32 0, .int .i64 0])] (by kernel_rfl) ?_
  have hS : St B _ (Ass.box 90 g2475 [.slice A2525 t2521.length C2526, .int .i64 t2522, .int .i64 t2523] :: Ass.own 37 kS37 A2525 C2526 t2521 :: os) (Ro.sl (Kd.int .i32) none 0 ([] : List Int) :: Ro.sl (Kd.int .i32) none 0 ([] : List Int) :: Ro.sl (Kd.int .i32) none 0 ([] : List Int) :: Ro.sl (Kd.int .i32) none 0 ([] : List Int) :: Ro.sl (Kd.int .i32) none 0 ([] : List Int) :: rs) := hS.re [1, 1] [] rfl (sub_cons 0 rfl sub_self)
  obtain ⟨t2528, t2529, t2530, t2531, hc2534, H⟩ := b4_out H
  refine EL.of (EO.callD 19 [.pointer (some ⟨g2475, 0, none⟩), .agg #[.int .i32 4, .int .i64 0, .int .i64 0, .slice none ([] : List Int).length 0, .int .i32 0, .int .i32 0, .int .i32 0, .int .i32 0, .int .i64 0, .int .i64 0, .int .u32 0, .int .i64 0]] _ 24 (by kernel_rfl) (by kernel_rfl) (by kernel_rfl) (ring_Ring_Push.calls hc2534 hS) ?_)
  rintro v w ⟨A2532, C2533, rfl, hS⟩
  refine EL.quick 4 [1, 2, 3, 4, 5] [(1, .pointer (some ⟨g2475, 0, none⟩)), (2, .bool (t2510)), (3, .bool (t2517)), (4, .bool (t2524)), (5, .bool (t2531))] (by kernel_rfl) ?_
  refine EL.done (by kernel_rfl) ?_
  refine EQ.code ?_
  refine EW.seq (x := Cd15.r.r.r.r.l) (y := Cd15.r.r.r.r.r) (by kernel_rfl) ?_
  refine EW.region (id := 5) (ops := Cd15.r.r.r.r.l.ops) (by kernel_rfl) ?_
  refine EL.quick 1 [1, 2, 3, 4, 5, 26] [(1, .pointer (some ⟨g2475, 0, none⟩)), (2, .bool (t2510)), (3, .bool (t2517)), (4, .bool (t2524)), (5, .bool (t2531)), (26, .pointer (some ⟨g2475, 0, none⟩))] (by kernel_rfl) ?_
  obtain ⟨t2543, t2544, t2545, t2546, hc2549, H⟩ := b4_out H
  refine EL.of (EO.callD 21 [.pointer (some ⟨g2475, 0, none⟩)] _ 27 (by kernel_rfl) (by kernel_rfl) (by kernel_rfl) (ring_Ring_Pop.calls hc2549 hS) ?_)
  rintro v w ⟨A2547, C2548, rfl, hS⟩
  refine EL.quick 3 [1, 2, 3, 4, 5, 28, 29] [(1, .pointer (some ⟨g2475, 0, none⟩)), (2, .bool (t2510)), (3, .bool (t2517)), (4, .bool (t2524)), (5, .bool (t2531)), (28, .agg #[.int .i32 t2545.f0, .int .i64 t2545.f1, .int .i64 t2545.f2, .slice A2547 t2545.f3.length C2548, .int .i32 t2545.f4.f0, .int .i32 t2545.f4.f1, .int .i32 t2545.f4.f2, .int .i32 t2545.f4.f3, .int .i64 t2545.f5, .int .i64 t2545.f6, .int .u32 t2545.f7, .int .i64 t2545.f8]), (29, .bool (t2546))] (by kernel_rfl) ?_
  refine EL.of (EO.alloc hS 37 (.agg #[.int .i32 0, .int .i64 0, .int .i64 0, .slice none ([] : List Int).length 0, .int .i32 0, .int .i32 0, .int .i32 0, .int .i32 0, .int .i64 0, .int .i64 0, .int .u32 0, .int .i64 0]) [.int .i32 0, .int .i64 0, .int .i64 0, .slice none ([] : List Int).length 0, .int .i32 0, .int .i32 0, .int .i32 0, .int .i32 0, .int .i64 0, .int .i64 0, .int .u32 0, .int .i64 0] 6 (by kernel_rfl) (by kernel_rfl) (by kernel_rfl) (by kernel_rfl) (by first | rfl | kernel_rfl) ?_)
  intro g2550 w hS
  refine EL.of (EO.storeBox (os' := Ass.box 37 g2550 [.int .i32 t2545.f0, .int .i64 t2545.f1, .int .i64 t2545.f2, .slice A2547 t2545.f3.length C2548, .int .i32 t2545.f4.f0, .int .i32 t2545.f4.f1, .int .i32 t2545.f4.f2, .int .i32 t2545.f4.f3, .int .i64 t2545.f5, .int .i64 t2545.f6, .int .u32 t2545.f7, .int .i64 t2545.f8] :: Ass.box 90 g2475 [.slice A2532 t2528.length C2533, .int .i64 t2543, .int .i64 t2544] :: Ass.own 37 kS37 A2532 C2533 t2528 :: os) hS 0 rfl 37 0 (.agg #[.int .i32 t2545.f0, .int .i64 t2545.f1, .int .i64 t2545.f2, .slice A2547 t2545.f3.length C2548, .int .i32 t2545.f4.f0, .int .i32 t2545.f4.f1, .int .i32 t2545.f4.f2, .int .i32 t2545.f4.f3, .int .i64 t2545.f5, .int .i64 t2545.f6, .int .u32 t2545.f7, .int .i64 t2545.f8]) [.int .i32 t2545.f0, .int .i64 t2545.f1, .int .i64 t2545.f2, .slice A2547 t2545.f3.length C2548, .int .i32 t2545.f4.f0, .int .i32 t2545.f4.f1, .int .i32 t2545.f4.f2, .int .i32 t2545.f4.f3, .int .i64 t2545.f5, .int .i64 t2545.f6, .int .u32 t2545.f7, .int .i64 t2545.f8] (by kernel_rfl) (by kernel_rfl) (by kernel_rfl) (by kernel_rfl) (by kernel_rfl) (by kernel_rfl) rfl rfl ?_)
  intro w hS
  refine EL.quick 1 [1, 2, 3, 4, 5, 6, 7] [(1, .pointer (some ⟨g2475, 0, none⟩)), (2, .bool (t2510)), (3, .bool (t2517)), (4, .bool (t2524)), (5, .bool (t2531)), (6, .pointer (some ⟨g2550, 0, none⟩)), (7, .bool (t2546))] (by kernel_rfl) ?_
  refine EL.done (by kernel_rfl) ?_
  refine EQ.code ?_
  refine EW.seq (x := Cd15.r.r.r.r.r.l) (y := Cd15.r.r.r.r.r.r) (by kernel_rfl) ?_
  refine EW.region (id := 6) (ops := Cd15.r.r.r.r.r.l.ops) (by kernel_rfl) ?_
  refine EL.quick 1 [1, 2, 3, 4, 5, 6, 7, 31] [(1, .pointer (some ⟨g2475, 0, none⟩)), (2, .bool (t2510)), (3, .bool (t2517)), (4, .bool (t2524)), (5, .bool (t2531)), (6, .pointer (some ⟨g2550, 0, none⟩)), (7, .bool (t2546)), (31, .pointer (some ⟨g2475, 0, none⟩))] (by kernel_rfl) ?_
  have hS : St B _ (Ass.box 90 g2475 [.slice A2532 t2528.length C2533, .int .i64 t2543, .int .i64 t2544] :: Ass.own 37 kS37 A2532 C2533 t2528 :: Ass.box 37 g2550 [.int .i32 t2545.f0, .int .i64 t2545.f1, .int .i64 t2545.f2, .slice A2547 t2545.f3.length C2548, .int .i32 t2545.f4.f0, .int .i32 t2545.f4.f1, .int .i32 t2545.f4.f2, .int .i32 t2545.f4.f3, .int .i64 t2545.f5, .int .i64 t2545.f6, .int .u32 t2545.f7, .int .i64 t2545.f8] :: os) (Ro.sl (Kd.int .i32) A2547 C2548 t2545.f3 :: Ro.sl (Kd.int .i32) none 0 ([] : List Int) :: Ro.sl (Kd.int .i32) none 0 ([] : List Int) :: Ro.sl (Kd.int .i32) none 0 ([] : List Int) :: Ro.sl (Kd.int .i32) none 0 ([] : List Int) :: Ro.sl (Kd.int .i32) none 0 ([] : List Int) :: rs) := hS.re [2, 2] [] rfl sub_self
  obtain ⟨t2559, t2560, t2561, t2562, hc2565, H⟩ := b4_out H
  refine EL.of (EO.callD 24 [.pointer (some ⟨g2475, 0, none⟩)] _ 32 (by kernel_rfl) (by kernel_rfl) (by kernel_rfl) (ring_Ring_Steal.calls hc2565 hS) ?_)
  rintro v w ⟨A2563, C2564, rfl, hS⟩
  refine EL.quick 3 [1, 2, 3, 4, 5, 6, 7, 33, 34] [(1, .pointer (some ⟨g2475, 0, none⟩)), (2, .bool (t2510)), (3, .bool (t2517)), (4, .bool (t2524)), (5, .bool (t2531)), (6, .pointer (some ⟨g2550, 0, none⟩)), (7, .bool (t2546)), (33, .agg #[.int .i32 t2561.f0, .int .i64 t2561.f1, .int .i64 t2561.f2, .slice A2563 t2561.f3.length C2564, .int .i32 t2561.f4.f0, .int .i32 t2561.f4.f1, .int .i32 t2561.f4.f2, .int .i32 t2561.f4.f3, .int .i64 t2561.f5, .int .i64 t2561.f6, .int .u32 t2561.f7, .int .i64 t2561.f8]), (34, .bool (t2562))] (by kernel_rfl) ?_
  refine EL.of (EO.alloc hS 37 (.agg #[.int .i32 0, .int .i64 0, .int .i64 0, .slice none ([] : List Int).length 0, .int .i32 0, .int .i32 0, .int .i32 0, .int .i32 0, .int .i64 0, .int .i64 0, .int .u32 0, .int .i64 0]) [.int .i32 0, .int .i64 0, .int .i64 0, .slice none ([] : List Int).length 0, .int .i32 0, .int .i32 0, .int .i32 0, .int .i32 0, .int .i64 0, .int .i64 0, .int .u32 0, .int .i64 0] 8 (by kernel_rfl) (by kernel_rfl) (by kernel_rfl) (by kernel_rfl) (by first | rfl | kernel_rfl) ?_)
  intro g2566 w hS
  refine EL.of (EO.storeBox (os' := Ass.box 37 g2566 [.int .i32 t2561.f0, .int .i64 t2561.f1, .int .i64 t2561.f2, .slice A2563 t2561.f3.length C2564, .int .i32 t2561.f4.f0, .int .i32 t2561.f4.f1, .int .i32 t2561.f4.f2, .int .i32 t2561.f4.f3, .int .i64 t2561.f5, .int .i64 t2561.f6, .int .u32 t2561.f7, .int .i64 t2561.f8] :: Ass.box 90 g2475 [.slice A2532 t2528.length C2533, .int .i64 t2559, .int .i64 t2560] :: Ass.own 37 kS37 A2532 C2533 t2528 :: Ass.box 37 g2550 [.int .i32 t2545.f0, .int .i64 t2545.f1, .int .i64 t2545.f2, .slice A2547 t2545.f3.length C2548, .int .i32 t2545.f4.f0, .int .i32 t2545.f4.f1, .int .i32 t2545.f4.f2, .int .i32 t2545.f4.f3, .int .i64 t2545.f5, .int .i64 t2545.f6, .int .u32 t2545.f7, .int .i64 t2545.f8] :: os) hS 0 rfl 37 0 (.agg #[.int .i32 t2561.f0, .int .i64 t2561.f1, .int .i64 t2561.f2, .slice A2563 t2561.f3.length C2564, .int .i32 t2561.f4.f0, .int .i32 t2561.f4.f1, .int .i32 t2561.f4.f2, .int .i32 t2561.f4.f3, .int .i64 t2561.f5, .int .i64 t2561.f6, .int .u32 t2561.f7, .int .i64 t2561.f8]) [.int .i32 t2561.f0, .int .i64 t2561.f1, .int .i64 t2561.f2, .slice A2563 t2561.f3.length C2564, .int .i32 t2561.f4.f0, .int .i32 t2561.f4.f1, .int .i32 t2561.f4.f2, .int .i32 t2561.f4.f3, .int .i64 t2561.f5, .int .i64 t2561.f6, .int .u32 t2561.f7, .int .i64 t2561.f8] (by kernel_rfl) (by kernel_rfl) (by kernel_rfl) (by kernel_rfl) (by kernel_rfl) (by kernel_rfl) rfl rfl ?_)
  intro w hS
  refine EL.quick 1 [1, 2, 3, 4, 5, 6, 7, 8, 9] [(1, .pointer (some ⟨g2475, 0, none⟩)), (2, .bool (t2510)), (3, .bool (t2517)), (4, .bool (t2524)), (5, .bool (t2531)), (6, .pointer (some ⟨g2550, 0, none⟩)), (7, .bool (t2546)), (8, .pointer (some ⟨g2566, 0, none⟩)), (9, .bool (t2562))] (by kernel_rfl) ?_
  refine EL.done (by kernel_rfl) ?_
  refine EQ.code ?_
  refine EW.seq (x := Cd15.r.r.r.r.r.r.l) (y := Cd15.r.r.r.r.r.r.r) (by kernel_rfl) ?_
  refine EW.region (id := 7) (ops := Cd15.r.r.r.r.r.r.l.ops) (by kernel_rfl) ?_
  refine EL.quick 2 [1, 3, 4, 5, 6, 7, 8, 9, 36] [(1, .pointer (some ⟨g2475, 0, none⟩)), (3, .bool (t2517)), (4, .bool (t2524)), (5, .bool (t2531)), (6, .pointer (some ⟨g2550, 0, none⟩)), (7, .bool (t2546)), (8, .pointer (some ⟨g2566, 0, none⟩)), (9, .bool (t2562)), (36, .bool (t2510))] (by kernel_rfl) ?_
  by_cases h2567 : t2510 = true
  · rw [if_pos h2567] at H
    refine EL.keep [1, 3, 4, 5, 6, 7, 8, 9, 36] [(1, .pointer (some ⟨g2475, 0, none⟩)), (3, .bool (t2517)), (4, .bool (t2524)), (5, .bool (t2531)), (6, .pointer (some ⟨g2550, 0, none⟩)), (7, .bool (t2546)), (8, .pointer (some ⟨g2566, 0, none⟩)), (9, .bool (t2562)), (36, .bool (t2510))] (by kernel_rfl) ?_
    refine EL.as' [(1, .pointer (some ⟨g2475, 0, none⟩)), (3, .bool (t2517)), (4, .bool (t2524)), (5, .bool (t2531)), (6, .pointer (some ⟨g2550, 0, none⟩)), (7, .bool (t2546)), (8, .pointer (some ⟨g2566, 0, none⟩)), (9, .bool (t2562)), (36, .bool (true))] (by simp only [h2567, Bool.not_true, Bool.not_false]) ?_
    refine EL.quick 3 [1, 4, 5, 6, 7, 8, 9, 39] [(1, .pointer (some ⟨g2475, 0, none⟩)), (4, .bool (t2524)), (5, .bool (t2531)), (6, .pointer (some ⟨g2550, 0, none⟩)), (7, .bool (t2546)), (8, .pointer (some ⟨g2566, 0, none⟩)), (9, .bool (t2562)), (39, .bool (t2517))] (by kernel_rfl) ?_
    by_cases h2568 : t2517 = true
    · rw [if_pos h2568] at H
      refine EL.keep [1, 4, 5, 6, 7, 8, 9, 39] [(1, .pointer (some ⟨g2475, 0, none⟩)), (4, .bool (t2524)), (5, .bool (t2531)), (6, .pointer (some ⟨g2550, 0, none⟩)), (7, .bool (t2546)), (8, .pointer (some ⟨g2566, 0, none⟩)), (9, .bool (t2562)), (39, .bool (t2517))] (by kernel_rfl) ?_
      refine EL.as' [(1, .pointer (some ⟨g2475, 0, none⟩)), (4, .bool (t2524)), (5, .bool (t2531)), (6, .pointer (some ⟨g2550, 0, none⟩)), (7, .bool (t2546)), (8, .pointer (some ⟨g2566, 0, none⟩)), (9, .bool (t2562)), (39, .bool (true))] (by simp only [h2568, Bool.not_true, Bool.not_false]) ?_
      refine EL.quick 3 [1, 5, 6, 7, 8, 9, 42] [(1, .pointer (some ⟨g2475, 0, none⟩)), (5, .bool (t2531)), (6, .pointer (some ⟨g2550, 0, none⟩)), (7, .bool (t2546)), (8, .pointer (some ⟨g2566, 0, none⟩)), (9, .bool (t2562)), (42, .bool (t2524))] (by kernel_rfl) ?_
      by_cases h2569 : t2524 = true
      · rw [if_pos h2569] at H
        refine EL.keep [1, 5, 6, 7, 8, 9, 42] [(1, .pointer (some ⟨g2475, 0, none⟩)), (5, .bool (t2531)), (6, .pointer (some ⟨g2550, 0, none⟩)), (7, .bool (t2546)), (8, .pointer (some ⟨g2566, 0, none⟩)), (9, .bool (t2562)), (42, .bool (t2524))] (by kernel_rfl) ?_
        refine EL.as' [(1, .pointer (some ⟨g2475, 0, none⟩)), (5, .bool (t2531)), (6, .pointer (some ⟨g2550, 0, none⟩)), (7, .bool (t2546)), (8, .pointer (some ⟨g2566, 0, none⟩)), (9, .bool (t2562)), (42, .bool (true))] (by simp only [h2569, Bool.not_true, Bool.not_false]) ?_
        refine EL.quick 4 [1, 6, 7, 8, 9, 46] [(1, .pointer (some ⟨g2475, 0, none⟩)), (6, .pointer (some ⟨g2550, 0, none⟩)), (7, .bool (t2546)), (8, .pointer (some ⟨g2566, 0, none⟩)), (9, .bool (t2562)), (46, .bool (!(t2531)))] (by kernel_rfl) ?_
        by_cases h2570 : t2531 = true
        · rw [if_pos h2570] at H
          refine EL.keep [1, 6, 7, 8, 9, 46] [(1, .pointer (some ⟨g2475, 0, none⟩)), (6, .pointer (some ⟨g2550, 0, none⟩)), (7, .bool (t2546)), (8, .pointer (some ⟨g2566, 0, none⟩)), (9, .bool (t2562)), (46, .bool (!(t2531)))] (by kernel_rfl) ?_
          refine EL.as' [(1, .pointer (some ⟨g2475, 0, none⟩)), (6, .pointer (some ⟨g2550, 0, none⟩)), (7, .bool (t2546)), (8, .pointer (some ⟨g2566, 0, none⟩)), (9, .bool (t2562)), (46, .bool (false))] (by simp only [h2570, Bool.not_true, Bool.not_false]) ?_
          refine EL.quick 44 [0] [(0, .bool (false))] (by kernel_rfl) ?_
          refine EL.done (by kernel_rfl) ?_
          refine EQ.code ?_
          refine EW.ret (by kernel_rfl) ?_
          obtain rfl := Option.some.inj H
          exact EQ.leave (.bool (false)) (by kernel_rfl) ⟨_, rfl, rfl, (hS.re [] [0, 0, 0, 0] rfl (sub_tail (sub_tail (sub_tail (sub_tail (sub_tail (sub_tail (sub_tail (sub_self)))))))))⟩
        · rw [if_neg h2570] at H
          refine EL.keep [1, 6, 7, 8, 9, 46] [(1, .pointer (some ⟨g2475, 0, none⟩)), (6, .pointer (some ⟨g2550, 0, none⟩)), (7, .bool (t2546)), (8, .pointer (some ⟨g2566, 0, none⟩)), (9, .bool (t2562)), (46, .bool (!(t2531)))] (by kernel_rfl) ?_
          refine EL.as' [(1, .pointer (some ⟨g2475, 0, none⟩)), (6, .pointer (some ⟨g2550, 0, none⟩)), (7, .bool (t2546)), (8, .pointer (some ⟨g2566, 0, none⟩)), (9, .bool (t2562)), (46, .bool (true))] (by simp only [(Bool.eq_false_iff.2 h2570), Bool.not_true, Bool.not_false]) ?_
          refine EL.quick 3 [1, 6, 8, 9, 49] [(1, .pointer (some ⟨g2475, 0, none⟩)), (6, .pointer (some ⟨g2550, 0, none⟩)), (8, .pointer (some ⟨g2566, 0, none⟩)), (9, .bool (t2562)), (49, .bool (t2546))] (by kernel_rfl) ?_
          by_cases h2571 : t2546 = true
          · rw [if_pos h2571] at H
            refine EL.keep [1, 6, 8, 9, 49] [(1, .pointer (some ⟨g2475, 0, none⟩)), (6, .pointer (some ⟨g2550, 0, none⟩)), (8, .pointer (some ⟨g2566, 0, none⟩)), (9, .bool (t2562)), (49, .bool (t2546))] (by kernel_rfl) ?_
            refine EL.as' [(1, .pointer (some ⟨g2475, 0, none⟩)), (6, .pointer (some ⟨g2550, 0, none⟩)), (8, .pointer (some ⟨g2566, 0, none⟩)), (9, .bool (t2562)), (49, .bool (true))] (by simp only [h2571, Bool.not_true, Bool.not_false]) ?_
            refine EL.quick 1 [1, 8, 9, 49, 50] [(1, .pointer (some ⟨g2475, 0, none⟩)), (8, .pointer (some ⟨g2566, 0, none⟩)), (9, .bool (t2562)), (49, .bool (true)), (50, .pointer (some ⟨g2550, 0, none⟩))] (by kernel_rfl) ?_
            refine EL.of (EO.Y (YO.loadBox hS 3 rfl 21 0 1 (.int .i32 t2545.f0) 51 (by kernel_rfl) (by kernel_rfl) (by kernel_rfl) (by kernel_rfl)) ?_)
            refine EL.quick 3 [1, 8, 9, 54] [(1, .pointer (some ⟨g2475, 0, none⟩)), (8, .pointer (some ⟨g2566, 0, none⟩)), (9, .bool (t2562)), (54, .bool (decide (t2545.f0 = 3)))] (by kernel_rfl) ?_
            by_cases h2572 : t2545.f0 = 3
            · rw [if_pos h2572] at H
              refine EL.keep [1, 8, 9, 54] [(1, .pointer (some ⟨g2475, 0, none⟩)), (8, .pointer (some ⟨g2566, 0, none⟩)), (9, .bool (t2562)), (54, .bool (decide (t2545.f0 = 3)))] (by kernel_rfl) ?_
              refine EL.as' [(1, .pointer (some ⟨g2475, 0, none⟩)), (8, .pointer (some ⟨g2566, 0, none⟩)), (9, .bool (t2562)), (54, .bool (true))] (by simp only [dec_t h2572, Bool.not_true, Bool.not_false]) ?_
              refine EL.quick 3 [1, 8, 57] [(1, .pointer (some ⟨g2475, 0, none⟩)), (8, .pointer (some ⟨g2566, 0, none⟩)), (57, .bool (t2562))] (by kernel_rfl) ?_
              by_cases h2573 : t2562 = true
              · rw [if_pos h2573] at H
                refine EL.keep [1, 8, 57] [(1, .pointer (some ⟨g2475, 0, none⟩)), (8, .pointer (some ⟨g2566, 0, none⟩)), (57, .bool (t2562))] (by kernel_rfl) ?_
                refine EL.as' [(1, .pointer (some ⟨g2475, 0, none⟩)), (8, .pointer (some ⟨g2566, 0, none⟩)), (57, .bool (true))] (by simp only [h2573, Bool.not_true, Bool.not_false]) ?_
                refine EL.quick 1 [1, 57, 58] [(1, .pointer (some ⟨g2475, 0, none⟩)), (57, .bool (true)), (58, .pointer (some ⟨g2566, 0, none⟩))] (by kernel_rfl) ?_
                refine EL.of (EO.Y (YO.loadBox hS 0 rfl 21 0 1 (.int .i32 t2561.f0) 59 (by kernel_rfl) (by kernel_rfl) (by kernel_rfl) (by kernel_rfl)) ?_)
                refine EL.quick 3 [1, 62] [(1, .pointer (some ⟨g2475, 0, none⟩)), (62, .bool (decide (t2561.f0 = 1)))] (by kernel_rfl) ?_
                by_cases h2574 : t2561.f0 = 1
                · rw [if_pos h2574] at H
                  refine EL.keep [1, 62] [(1, .pointer (some ⟨g2475, 0, none⟩)), (62, .bool (decide (t2561.f0 = 1)))] (by kernel_rfl) ?_
                  refine EL.as' [(1, .pointer (some ⟨g2475, 0, none⟩)), (62, .bool (true))] (by simp only [dec_t h2574, Bool.not_true, Bool.not_false]) ?_
                  refine EL.quick 1 [1, 62, 63] [(1, .pointer (some ⟨g2475, 0, none⟩)), (62, .bool (true)), (63, .pointer (some ⟨g2475, 0, none⟩))] (by kernel_rfl) ?_
                  have hS : St B _ (Ass.box 90 g2475 [.slice A2532 t2528.length C2533, .int .i64 t2559, .int .i64 t2560] :: Ass.own 37 kS37 A2532 C2533 t2528 :: Ass.box 37 g2566 [.int .i32 t2561.f0, .int .i64 t2561.f1, .int .i64 t2561.f2, .slice A2563 t2561.f3.length C2564, .int .i32 t2561.f4.f0, .int .i32 t2561.f4.f1, .int .i32 t2561.f4.f2, .int .i32 t2561.f4.f3, .int .i64 t2561.f5, .int .i64 t2561.f6, .int .u32 t2561.f7, .int .i64 t2561.f8] :: Ass.box 37 g2550 [.int .i32 t2545.f0, .int .i64 t2545.f1, .int .i64 t2545.f2, .slice A2547 t2545.f3.length C2548, .int .i32 t2545.f4.f0, .int .i32 t2545.f4.f1, .int .i32 t2545.f4.f2, .int .i32 t2545.f4.f3, .int .i64 t2545.f5, .int .i64 t2545.f6, .int .u32 t2545.f7, .int .i64 t2545.f8] :: os) (Ro.sl (Kd.int .i32) A2563 C2564 t2561.f3 :: Ro.sl (Kd.int .i32) A2547 C2548 t2545.f3 :: Ro.sl (Kd.int .i32) none 0 ([] : List Int) :: Ro.sl (Kd.int .i32) none 0 ([] : List Int) :: Ro.sl (Kd.int .i32) none 0 ([] : List Int) :: Ro.sl (Kd.int .i32) none 0 ([] : List Int) :: Ro.sl (Kd.int .i32) none 0 ([] : List Int) :: rs) := hS.re [2, 2] [] rfl sub_self
                  obtain ⟨t2575, t2576, t2577, hc2578, H⟩ := b3_out H
                  refine EL.of (EO.callD 29 [.pointer (some ⟨g2475, 0, none⟩)] _ 64 (by kernel_rfl) (by kernel_rfl) (by kernel_rfl) (ring_Ring_Len.calls hc2578 hS) ?_)
                  rintro v w ⟨rfl, hS⟩
                  refine EL.quick 3 [1, 67] [(1, .pointer (some ⟨g2475, 0, none⟩)), (67, .bool (decide (t2577 = 1)))] (by kernel_rfl) ?_
                  by_cases h2579 : t2577 = 1
                  · rw [if_pos h2579] at H
                    refine EL.keep [1, 67] [(1, .pointer (some ⟨g2475, 0, none⟩)), (67, .bool (decide (t2577 = 1)))] (by kernel_rfl) ?_
                    refine EL.as' [(1, .pointer (some ⟨g2475, 0, none⟩)), (67, .bool (true))] (by simp only [dec_t h2579, Bool.not_true, Bool.not_false]) ?_
                    refine EL.quick 1 [1, 67, 68] [(1, .pointer (some ⟨g2475, 0, none⟩)), (67, .bool (true)), (68, .pointer (some ⟨g2475, 0, none⟩))] (by kernel_rfl) ?_
                    obtain ⟨t2580, t2581, t2582, hc2583, H⟩ := b3_out H
                    refine EL.of (EO.callD 18 [.pointer (some ⟨g2475, 0, none⟩)] _ 69 (by kernel_rfl) (by kernel_rfl) (by kernel_rfl) (ring_Ring_Room.calls hc2583 hS) ?_)
                    rintro v w ⟨rfl, hS⟩
                    refine EL.quick 3 [1, 72] [(1, .pointer (some ⟨g2475, 0, none⟩)), (72, .bool (decide (t2582 = 3)))] (by kernel_rfl) ?_
                    by_cases h2584 : t2582 = 3
                    · rw [if_pos h2584] at H
                      refine EL.keep [1, 72] [(1, .pointer (some ⟨g2475, 0, none⟩)), (72, .bool (decide (t2582 = 3)))] (by kernel_rfl) ?_
                      refine EL.as' [(1, .pointer (some ⟨g2475, 0, none⟩)), (72, .bool (true))] (by simp only [dec_t h2584, Bool.not_true, Bool.not_false]) ?_
                      refine EL.quick 1 [1, 72, 73] [(1, .pointer (some ⟨g2475, 0, none⟩)), (72, .bool (true)), (73, .pointer (some ⟨g2475, 0, none⟩))] (by kernel_rfl) ?_
                      obtain ⟨t2585, t2586, t2587, hc2590, H⟩ := b3_out H
                      refine EL.of (EO.callD 30 [.pointer (some ⟨g2475, 0, none⟩)] _ 74 (by kernel_rfl) (by kernel_rfl) (by kernel_rfl) (ring_Ring_All.calls hc2590 hS) ?_)
                      rintro v w ⟨A2588, C2589, rfl, hS⟩
                      refine EL.quick 4 [1, 78] [(1, .pointer (some ⟨g2475, 0, none⟩)), (78, .bool (decide ((t2587.length : Int) = 1)))] (by kernel_rfl) ?_
                      by_cases h2591 : (t2587.length : Int) = 1
                      · rw [if_pos h2591] at H
                        refine EL.keep [1, 78] [(1, .pointer (some ⟨g2475, 0, none⟩)), (78, .bool (decide ((t2587.length : Int) = 1)))] (by kernel_rfl) ?_
                        refine EL.as' [(1, .pointer (some ⟨g2475, 0, none⟩)), (78, .bool (true))] (by simp only [dec_t h2591, Bool.not_true, Bool.not_false]) ?_
                        refine EL.quick 1 [1, 78, 79] [(1, .pointer (some ⟨g2475, 0, none⟩)), (78, .bool (true)), (79, .pointer (some ⟨g2475, 0, none⟩))] (by kernel_rfl) ?_
                        obtain ⟨t2592, t2593, t2594, hc2597, H⟩ := b3_out H
                        refine EL.of (EO.callD 27 [.pointer (some ⟨g2475, 0, none⟩)] _ 80 (by kernel_rfl) (by kernel_rfl) (by kernel_rfl) (ring_Ring_Half.calls hc2597 hS) ?_)
                        rintro v w ⟨A2595, C2596, rfl, hS⟩
                        refine EL.quick 4 [1, 84] [(1, .pointer (some ⟨g2475, 0, none⟩)), (84, .bool (decide ((t2594.length : Int) = 1)))] (by kernel_rfl) ?_
                        by_cases h2598 : (t2594.length : Int) = 1
                        · rw [if_pos h2598] at H
                          refine EL.keep [1, 84] [(1, .pointer (some ⟨g2475, 0, none⟩)), (84, .bool (decide ((t2594.length : Int) = 1)))] (by kernel_rfl) ?_
                          refine EL.as' [(1, .pointer (some ⟨g2475, 0, none⟩)), (84, .bool (true))] (by simp only [dec_t h2598, Bool.not_true, Bool.not_false]) ?_
                          refine EL.quick 1 [84, 85] [(84, .bool (true)), (85, .pointer (some ⟨g2475, 0, none⟩))] (by kernel_rfl) ?_
                          obtain ⟨t2599, t2600, t2601, hc2604, H⟩ := b3_out H
                          refine EL.of (EO.callD 27 [.pointer (some ⟨g2475, 0, none⟩)] _ 86 (by kernel_rfl) (by kernel_rfl) (by kernel_rfl) (ring_Ring_Half.calls hc2604 hS) ?_)
                          rintro v w ⟨A2602, C2603, rfl, hS⟩
                          refine EL.quick 4 [0] [(0, .bool (decide ((t2601.length : Int) = 0)))] (by kernel_rfl) ?_
                          refine EL.done (by kernel_rfl) ?_
                          refine EQ.code ?_
                          refine EW.ret (by kernel_rfl) ?_
                          obtain rfl := Option.some.inj H
                          exact EQ.leave (.bool (decide ((t2601.length : Int) = 0))) (by kernel_rfl) ⟨_, rfl, rfl, (hS.re [] [0, 0, 0, 0, 0, 0, 0] rfl (sub_tail (sub_tail (sub_tail (sub_tail (sub_tail (sub_tail (sub_tail (sub_self)))))))))⟩
                        · rw [if_neg h2598] at H
                          refine EL.keep [1, 84] [(1, .pointer (some ⟨g2475, 0, none⟩)), (84, .bool (decide ((t2594.length : Int) = 1)))] (by kernel_rfl) ?_
                          refine EL.as' [(1, .pointer (some ⟨g2475, 0, none⟩)), (84, .bool (false))] (by simp only [dec_f h2598, Bool.not_true, Bool.not_false]) ?_
                          refine EL.quick 6 [0] [(0, .bool (false))] (by kernel_rfl) ?_
                          refine EL.done (by kernel_rfl) ?_
                          refine EQ.code ?_
                          refine EW.ret (by kernel_rfl) ?_
                          obtain rfl := Option.some.inj H
                          exact EQ.leave (.bool (false)) (by kernel_rfl) ⟨_, rfl, rfl, (hS.re [] [0, 0, 0, 0, 0, 0] rfl (sub_tail (sub_tail (sub_tail (sub_tail (sub_tail (sub_tail (sub_tail (sub_self)))))))))⟩
                      · rw [if_neg h2591] at H
                        refine EL.keep [1, 78] [(1, .pointer (some ⟨g2475, 0, none⟩)), (78, .bool (decide ((t2587.length : Int) = 1)))] (by kernel_rfl) ?_
                        refine EL.as' [(1, .pointer (some ⟨g2475, 0, none⟩)), (78, .bool (false))] (by simp only [dec_f h2591, Bool.not_true, Bool.not_false]) ?_
                        refine EL.quick 12 [0] [(0, .bool (false))] (by kernel_rfl) ?_
                        refine EL.done (by kernel_rfl) ?_
                        refine EQ.code ?_
                        refine EW.ret (by kernel_rfl) ?_
                        obtain rfl := Option.some.inj H
                        exact EQ.leave (.bool (false)) (by kernel_rfl) ⟨_, rfl, rfl, (hS.re [] [0, 0, 0, 0, 0] rfl (sub_tail (sub_tail (sub_tail (sub_tail (sub_tail (sub_tail (sub_tail (sub_self)))))))))⟩
                    · rw [if_neg h2584] at H
                      refine EL.keep [1, 72] [(1, .pointer (some ⟨g2475, 0, none⟩)), (72, .bool (decide (t2582 = 3)))] (by kernel_rfl) ?_
                      refine EL.as' [(1, .pointer (some ⟨g2475, 0, none⟩)), (72, .bool (false))] (by simp only [dec_f h2584, Bool.not_true, Bool.not_false]) ?_
                      refine EL.quick 18 [0] [(0, .bool (false))] (by kernel_rfl) ?_
                      refine EL.done (by kernel_rfl) ?_
                      refine EQ.code ?_
                      refine EW.ret (by kernel_rfl) ?_
                      obtain rfl := Option.some.inj H
                      exact EQ.leave (.bool (false)) (by kernel_rfl) ⟨_, rfl, rfl, (hS.re [] [0, 0, 0, 0] rfl (sub_tail (sub_tail (sub_tail (sub_tail (sub_tail (sub_tail (sub_tail (sub_self)))))))))⟩
                  · rw [if_neg h2579] at H
                    refine EL.keep [1, 67] [(1, .pointer (some ⟨g2475, 0, none⟩)), (67, .bool (decide (t2577 = 1)))] (by kernel_rfl) ?_
                    refine EL.as' [(1, .pointer (some ⟨g2475, 0, none⟩)), (67, .bool (false))] (by simp only [dec_f h2579, Bool.not_true, Bool.not_false]) ?_
                    refine EL.quick 23 [0] [(0, .bool (false))] (by kernel_rfl) ?_
                    refine EL.done (by kernel_rfl) ?_
                    refine EQ.code ?_
                    refine EW.ret (by kernel_rfl) ?_
                    obtain rfl := Option.some.inj H
                    exact EQ.leave (.bool (false)) (by kernel_rfl) ⟨_, rfl, rfl, (hS.re [] [0, 0, 0, 0] rfl (sub_tail (sub_tail (sub_tail (sub_tail (sub_tail (sub_tail (sub_tail (sub_self)))))))))⟩
                · rw [if_neg h2574] at H
                  refine EL.keep [1, 62] [(1, .pointer (some ⟨g2475, 0, none⟩)), (62, .bool (decide (t2561.f0 = 1)))] (by kernel_rfl) ?_
                  refine EL.as' [(1, .pointer (some ⟨g2475, 0, none⟩)), (62, .bool (false))] (by simp only [dec_f h2574, Bool.not_true, Bool.not_false]) ?_
                  refine EL.quick 28 [0] [(0, .bool (false))] (by kernel_rfl) ?_
                  refine EL.done (by kernel_rfl) ?_
                  refine EQ.code ?_
                  refine EW.ret (by kernel_rfl) ?_
                  obtain rfl := Option.some.inj H
                  exact EQ.leave (.bool (false)) (by kernel_rfl) ⟨_, rfl, rfl, (hS.re [] [0, 0, 0, 0] rfl (sub_tail (sub_tail (sub_tail (sub_tail (sub_tail (sub_tail (sub_tail (sub_self)))))))))⟩
              · rw [if_neg h2573] at H
                refine EL.keep [1, 8, 57] [(1, .pointer (some ⟨g2475, 0, none⟩)), (8, .pointer (some ⟨g2566, 0, none⟩)), (57, .bool (t2562))] (by kernel_rfl) ?_
                refine EL.as' [(1, .pointer (some ⟨g2475, 0, none⟩)), (8, .pointer (some ⟨g2566, 0, none⟩)), (57, .bool (false))] (by simp only [(Bool.eq_false_iff.2 h2573), Bool.not_true, Bool.not_false]) ?_
                refine EL.quick 33 [0] [(0, .bool (false))] (by kernel_rfl) ?_
                refine EL.done (by kernel_rfl) ?_
                refine EQ.code ?_
                refine EW.ret (by kernel_rfl) ?_
                obtain rfl := Option.some.inj H
                exact EQ.leave (.bool (false)) (by kernel_rfl) ⟨_, rfl, rfl, (hS.re [] [0, 0, 0, 0] rfl (sub_tail (sub_tail (sub_tail (sub_tail (sub_tail (sub_tail (sub_tail (sub_self)))))))))⟩
            · rw [if_neg h2572] at H
              refine EL.keep [1, 8, 9, 54] [(1, .pointer (some ⟨g2475, 0, none⟩)), (8, .pointer (some ⟨g2566, 0, none⟩)), (9, .bool (t2562)), (54, .bool (decide (t2545.f0 = 3)))] (by kernel_rfl) ?_
              refine EL.as' [(1, .pointer (some ⟨g2475, 0, none⟩)), (8, .pointer (some ⟨g2566, 0, none⟩)), (9, .bool (t2562)), (54, .bool (false))] (by simp only [dec_f h2572, Bool.not_true, Bool.not_false]) ?_
              refine EL.quick 36 [0] [(0, .bool (false))] (by kernel_rfl) ?_
              refine EL.done (by kernel_rfl) ?_
              refine EQ.code ?_
              refine EW.ret (by kernel_rfl) ?_
              obtain rfl := Option.some.inj H
              exact EQ.leave (.bool (false)) (by kernel_rfl) ⟨_, rfl, rfl, (hS.re [] [0, 0, 0, 0] rfl (sub_tail (sub_tail (sub_tail (sub_tail (sub_tail (sub_tail (sub_tail (sub_self)))))))))⟩
          · rw [if_neg h2571] at H
            refine EL.keep [1, 6, 8, 9, 49] [(1, .pointer (some ⟨g2475, 0, none⟩)), (6, .pointer (some ⟨g2550, 0, none⟩)), (8, .pointer (some ⟨g2566, 0, none⟩)), (9, .bool (t2562)), (49, .bool (t2546))] (by kernel_rfl) ?_
            refine EL.as' [(1, .pointer (some ⟨g2475, 0, none⟩)), (6, .pointer (some ⟨g2550, 0, none⟩)), (8, .pointer (some ⟨g2566, 0, none⟩)), (9, .bool (t2562)), (49, .bool (false))] (by simp only [(Bool.eq_false_iff.2 h2571), Bool.not_true, Bool.not_false]) ?_
            refine EL.quick 41 [0] [(0, .bool (false))] (by kernel_rfl) ?_
            refine EL.done (by kernel_rfl) ?_
            refine EQ.code ?_
            refine EW.ret (by kernel_rfl) ?_
            obtain rfl := Option.some.inj H
            exact EQ.leave (.bool (false)) (by kernel_rfl) ⟨_, rfl, rfl, (hS.re [] [0, 0, 0, 0] rfl (sub_tail (sub_tail (sub_tail (sub_tail (sub_tail (sub_tail (sub_tail (sub_self)))))))))⟩
      · rw [if_neg h2569] at H
        refine EL.keep [1, 5, 6, 7, 8, 9, 42] [(1, .pointer (some ⟨g2475, 0, none⟩)), (5, .bool (t2531)), (6, .pointer (some ⟨g2550, 0, none⟩)), (7, .bool (t2546)), (8, .pointer (some ⟨g2566, 0, none⟩)), (9, .bool (t2562)), (42, .bool (t2524))] (by kernel_rfl) ?_
        refine EL.as' [(1, .pointer (some ⟨g2475, 0, none⟩)), (5, .bool (t2531)), (6, .pointer (some ⟨g2550, 0, none⟩)), (7, .bool (t2546)), (8, .pointer (some ⟨g2566, 0, none⟩)), (9, .bool (t2562)), (42, .bool (false))] (by simp only [(Bool.eq_false_iff.2 h2569), Bool.not_true, Bool.not_false]) ?_
        refine EL.quick 48 [0] [(0, .bool (false))] (by kernel_rfl) ?_
        refine EL.done (by kernel_rfl) ?_
        refine EQ.code ?_
        refine EW.ret (by kernel_rfl) ?_
        obtain rfl := Option.some.inj H
        exact EQ.leave (.bool (false)) (by kernel_rfl) ⟨_, rfl, rfl, (hS.re [] [0, 0, 0, 0] rfl (sub_tail (sub_tail (sub_tail (sub_tail (sub_tail (sub_tail (sub_tail (sub_self)))))))))⟩
    · rw [if_neg h2568] at H
      refine EL.keep [1, 4, 5, 6, 7, 8, 9, 39] [(1, .pointer (some ⟨g2475, 0, none⟩)), (4, .bool (t2524)), (5, .bool (t2531)), (6, .pointer (some ⟨g2550, 0, none⟩)), (7, .bool (t2546)), (8, .pointer (some ⟨g2566, 0, none⟩)), (9, .bool (t2562)), (39, .bool (t2517))] (by kernel_rfl) ?_
      refine EL.as' [(1, .pointer (some ⟨g2475, 0, none⟩)), (4, .bool (t2524)), (5, .bool (t2531)), (6, .pointer (some ⟨g2550, 0, none⟩)), (7, .bool (t2546)), (8, .pointer (some ⟨g2566, 0, none⟩)), (9, .bool (t2562)), (39, .bool (false))] (by simp only [(Bool.eq_false_iff.2 h2568), Bool.not_true, Bool.not_false]) ?_
      refine EL.quick 51 [0] [(0, .bool (false))] (by kernel_rfl) ?_
      refine EL.done (by kernel_rfl) ?_
      refine EQ.code ?_
      refine EW.ret (by kernel_rfl) ?_
      obtain rfl := Option.some.inj H
      exact EQ.leave (.bool (false)) (by kernel_rfl) ⟨_, rfl, rfl, (hS.re [] [0, 0, 0, 0] rfl (sub_tail (sub_tail (sub_tail (sub_tail (sub_tail (sub_tail (sub_tail (sub_self)))))))))⟩
  · rw [if_neg h2567] at H
    refine EL.keep [1, 3, 4, 5, 6, 7, 8, 9, 36] [(1, .pointer (some ⟨g2475, 0, none⟩)), (3, .bool (t2517)), (4, .bool (t2524)), (5, .bool (t2531)), (6, .pointer (some ⟨g2550, 0, none⟩)), (7, .bool (t2546)), (8, .pointer (some ⟨g2566, 0, none⟩)), (9, .bool (t2562)), (36, .bool (t2510))] (by kernel_rfl) ?_
    refine EL.as' [(1, .pointer (some ⟨g2475, 0, none⟩)), (3, .bool (t2517)), (4, .bool (t2524)), (5, .bool (t2531)), (6, .pointer (some ⟨g2550, 0, none⟩)), (7, .bool (t2546)), (8, .pointer (some ⟨g2566, 0, none⟩)), (9, .bool (t2562)), (36, .bool (false))] (by simp only [(Bool.eq_false_iff.2 h2567), Bool.not_true, Bool.not_false]) ?_
    refine EL.quick 54 [0] [(0, .bool (false))] (by kernel_rfl) ?_
    refine EL.done (by kernel_rfl) ?_
    refine EQ.code ?_
    refine EW.ret (by kernel_rfl) ?_
    obtain rfl := Option.some.inj H
    exact EQ.leave (.bool (false)) (by kernel_rfl) ⟨_, rfl, rfl, (hS.re [] [0, 0, 0, 0] rfl (sub_tail (sub_tail (sub_tail (sub_tail (sub_tail (sub_tail (sub_tail (sub_self)))))))))⟩

/-! ### confidant/confidantref15.NewRing: function 17 -/
def confidantref15_NewRing.f (K : Nat) (a2630 : Int) : Option (Int × List S37) := some (mn (mx a2630 1) 64, ([] : List S37))
set_option maxRecDepth 100000 in
theorem confidantref15_NewRing.calls {K : Nat} {a2630 : Int} {x2633 : Int} {x2634 : List S37} {B w : World} {os : List Ass} {rs : List Ro} (H : confidantref15_NewRing.f K a2630 = some (x2633, x2634)) (hS : St B w (os) (rs)) :
    Calls Try.prog 17 [.int .i64 a2630].toArray w (fun en w' => ∃ v, en = .returned v ∧ ∃ g2632 : Nat, ∃ A2635 : Option Addr, ∃ C2636 : Nat, v = .pointer (some ⟨g2632, 0, none⟩) ∧ St B w' (Ass.box 32 g2632 [.int .i64 x2633, .slice A2635 x2634.length C2636] :: os) (Ro.sl kS37 A2635 C2636 x2634 :: rs)) := by
  unfold confidantref15_NewRing.f at H
  refine calls_of_EW (args := [.int .i64 a2630]) (c := Cd17) 8 Try.func17 (by kernel_rfl) (by kernel_rfl) (by kernel_rfl) ?_
  refine EW.seq (x := Cd17.l) (y := Cd17.r) (by kernel_rfl) ?_
  refine EW.region (id := 0) (ops := Cd17.l.ops) (by kernel_rfl) ?_
  refine EL.quick 1 [0] [(0, .int .i64 a2630)] (by kernel_rfl) ?_
  refine EL.done (by kernel_rfl) ?_
  refine EQ.code ?_
  refine EW.seq (x := Cd17.r.l) (y := Cd17.r.r) (by kernel_rfl) ?_
  refine EW.region (id := 1) (ops := Cd17.r.l.ops) (by kernel_rfl) ?_
  refine EL.quick 4 [6] [(6, .agg #[.int .i64 (mn (mx a2630 1) 64), .slice none ([] : List S37).length 0])] (by kernel_rfl) ?_
  refine EL.of (EO.box hS 32 (.agg #[.int .i64 (mn (mx a2630 1) 64), .slice none ([] : List S37).length 0]) [.int .i64 (mn (mx a2630 1) 64), .slice none ([] : List S37).length 0] 7 (by kernel_rfl) (by kernel_rfl) (by kernel_rfl) (by first | rfl | kernel_rfl) ?_)
  intro g2637 w hS
  refine EL.quick 1 [2] [(2, .pointer (some ⟨g2637, 0, none⟩))] (by kernel_rfl) ?_
  refine EL.done (by kernel_rfl) ?_
  refine EQ.code ?_
  refine EW.ret (by kernel_rfl) ?_
  have hS := St.nilR hS kS37
  simp only [Option.some.injEq, Prod.mk.injEq] at H
  obtain ⟨rfl, rfl⟩ := H
  exact EQ.leave (.pointer (some ⟨g2637, 0, none⟩)) (by kernel_rfl) ⟨_, rfl, g2637, none, 0, rfl, (hS.re [0] [] rfl (sub_cons 0 rfl (sub_tail (sub_self))))⟩

/-! ### (*confidant/confidantref15.Ring).Push: function 20 -/
def confidantref15_Ring_Push.f (K : Nat) (a2707 : Int) (l2708 : List S37) (a2711 : Int) (a2712 : Int) (a2713 : Int) (l2714 : List Int) (a2717 : Int) (a2718 : Int) (a2719 : Int) (a2720 : Int) (a2721 : Int) (a2722 : Int) (a2723 : Int) (a2724 : Int) : Option (Int × List S37 × Bool) := if (l2708.length : Int) ≥ a2707 then (some (a2707, l2708, false)) else (if (([] : List S37).length + l2708.length) * 96 ≤ 140737488355328 then (lt (([] : List S37) ++ l2708) fun l2749 => (lt ([(⟨a2711, a2712, a2713, l2714, (⟨a2717, a2718, a2719, a2720⟩ : S34), a2721, a2722, a2723, a2724⟩ : S37)] : List S37) fun l2753 => (if (l2749.length + l2753.length) * 96 ≤ 140737488355328 then (lt (l2749 ++ l2753) fun l2755 => (some (a2707, l2755, true))) else none))) else none)
set_option maxRecDepth 100000 in
theorem confidantref15_Ring_Push.calls {K : Nat} {a2707 : Int} {l2708 : List S37} {a2711 : Int} {a2712 : Int} {a2713 : Int} {l2714 : List Int} {a2717 : Int} {a2718 : Int} {a2719 : Int} {a2720 : Int} {a2721 : Int} {a2722 : Int} {a2723 : Int} {a2724 : Int} {g2706 : Nat} {A2709 : Option Addr} {C2710 : Nat} {A2715 : Option Addr} {C2716 : Nat} {x2739 : Int} {x2740 : List S37} {x2743 : Bool} {B w : World} {os : List Ass} {rs : List Ro} (H : confidantref15_Ring_Push.f K a2707 l2708 a2711 a2712 a2713 l2714 a2717 a2718 a2719 a2720 a2721 a2722 a2723 a2724 = some (x2739, x2740, x2743)) (hS : St B w (Ass.box 32 g2706 [.int .i64 a2707, .slice A2709 l2708.length C2710] :: os) (Ro.sl kS37 A2709 C2710 l2708 :: Ro.sl (Kd.int .i32) A2715 C2716 l2714 :: rs)) :
    Calls Try.prog 20 [.pointer (some ⟨g2706, 0, none⟩), .agg #[.int .i32 a2711, .int .i64 a2712, .int .i64 a2713, .slice A2715 l2714.length C2716, .int .i32 a2717, .int .i32 a2718, .int .i32 a2719, .int .i32 a2720, .int .i64 a2721, .int .i64 a2722, .int .u32 a2723, .int .i64 a2724]].toArray w (fun en w' => ∃ v, en = .returned v ∧ ∃ A2741 : Option Addr, ∃ C2742 : Nat, v = .bool (x2743) ∧ St B w' (Ass.box 32 g2706 [.int .i64 x2739, .slice A2741 x2740.length C2742] :: os) (Ro.sl kS37 A2741 C2742 x2740 :: Ro.sl kS37 A2709 C2710 l2708 :: Ro.sl (Kd.int .i32) A2715 C2716 l2714 :: rs)) := by
  unfold confidantref15_Ring_Push.f at H
  refine calls_of_EW (args := [.pointer (some ⟨g2706, 0, none⟩), .agg #[.int .i32 a2711, .int .i64 a2712, .int .i64 a2713, .slice A2715 l2714.length C2716, .int .i32 a2717, .int .i32 a2718, .int .i32 a2719, .int .i32 a2720, .int .i64 a2721, .int .i64 a2722, .int .u32 a2723, .int .i64 a2724]]) (c := Cd20) 26 Try.func20 (by kernel_rfl) (by kernel_rfl) (by kernel_rfl) ?_
  refine EW.seq (x := Cd20.l) (y := Cd20.r) (by kernel_rfl) ?_
  refine EW.region (id := 0) (ops := Cd20.l.ops) (by kernel_rfl) ?_
  refine EL.of (EO.box hS 37 (.agg #[.int .i32 a2711, .int .i64 a2712, .int .i64 a2713, .slice A2715 l2714.length C2716, .int .i32 a2717, .int .i32 a2718, .int .i32 a2719, .int .i32 a2720, .int .i64 a2721, .int .i64 a2722, .int .u32 a2723, .int .i64 a2724]) [.int .i32 a2711, .int .i64 a2712, .int .i64 a2713, .slice A2715 l2714.length C2716, .int .i32 a2717, .int .i32 a2718, .int .i32 a2719, .int .i32 a2720, .int .i64 a2721, .int .i64 a2722, .int .u32 a2723, .int .i64 a2724] 3 (by kernel_rfl) (by kernel_rfl) (by kernel_rfl) (by first | rfl | kernel_rfl) ?_)
  intro g2745 w hS
  refine EL.quick 1 [0, 3] [(0, .pointer (some ⟨g2706, 0, none⟩)), (3, .pointer (some ⟨g2745, 0, none⟩))] (by kernel_rfl) ?_
  refine EL.done (by kernel_rfl) ?_
  refine EQ.code ?_
  refine EW.seq (x := Cd20.r.l) (y := Cd20.r.r) (by kernel_rfl) ?_
  refine EW.seq (x := Cd20.r.l.l) (y := Cd20.r.l.r) (by kernel_rfl) ?_
  have hS := hS.drew
  refine EW.draw (B := B) (id := 1) (ops := Cd20.r.l.l.ops) [Ass.box 37 g2745 [.int .i32 a2711, .int .i64 a2712, .int .i64 a2713, .slice A2715 l2714.length C2716, .int .i32 a2717, .int .i32 a2718, .int .i32 a2719, .int .i32 a2720, .int .i64 a2721, .int .i64 a2722, .int .u32 a2723, .int .i64 a2724], Ass.box 32 g2706 [.int .i64 a2707, .slice A2709 l2708.length C2710]] [Ro.sl kS37 A2709 C2710 l2708, Ro.sl (Kd.int .i32) A2715 C2716 l2714] (by kernel_rfl) (by kernel_rfl) ?_
  have hN : Region.noSelect Cd20.r.l.l.ops = true := (by kernel_rfl)
  have hF : freeAll Cd20.r.l.l.ops = true := (by kernel_rfl)
  have hC : Core B [Ass.box 37 g2745 [.int .i32 a2711, .int .i64 a2712, .int .i64 a2713, .slice A2715 l2714.length C2716, .int .i32 a2717, .int .i32 a2718, .int .i32 a2719, .int .i32 a2720, .int .i64 a2721, .int .i64 a2722, .int .u32 a2723, .int .i64 a2724], Ass.box 32 g2706 [.int .i64 a2707, .slice A2709 l2708.length C2710]] [Ro.sl kS37 A2709 C2710 l2708, Ro.sl (Kd.int .i32) A2715 C2716 l2714] _ := ⟨_, _, hS⟩
  refine ED.quick hN hF hC [0, 1, 2, 5, 6, 7] [0, 3, 7, 12] 4 [(0, .pointer (some ⟨g2706, 0, none⟩)), (3, .pointer (some ⟨g2745, 0, none⟩)), (7, .pointer (some ⟨g2706, 1, none⟩)), (12, .pointer (some ⟨g2706, 0, none⟩))] #[true, true, true, false, false, true, true, true, false, false] (by kernel_rfl) (by kernel_rfl) ?_
  refine ED.Y hN hF hC 3 3 #[true, true, true, true, false, true, true, true, false, false] (by kernel_rfl) (by kernel_rfl) rfl (fun _ _ _ hS => YO.loadBox hS 1 rfl 30 1 1 (.slice A2709 l2708.length C2710) 8 (by kernel_rfl) (by kernel_rfl) (by kernel_rfl) (by kernel_rfl)) ?_
  refine ED.quick hN hF hC [4] [0, 3, 9, 12] 2 [(0, .pointer (some ⟨g2706, 0, none⟩)), (3, .pointer (some ⟨g2745, 0, none⟩)), (9, .int .i64 (l2708.length : Int)), (12, .pointer (some ⟨g2706, 0, none⟩))] #[true, true, true, true, true, true, true, true, false, false] (by kernel_rfl) (by kernel_rfl) ?_
  refine ED.Y hN hF hC 8 1 #[true, true, true, true, true, true, true, true, true, false] (by kernel_rfl) (by kernel_rfl) rfl (fun _ _ _ hS => YO.loadBox hS 1 rfl 3 0 1 (.int .i64 a2707) 13 (by kernel_rfl) (by kernel_rfl) (by kernel_rfl) (by kernel_rfl)) ?_
  refine ED.quick hN hF hC [9] [0, 3, 14] 0 [(0, .pointer (some ⟨g2706, 0, none⟩)), (3, .pointer (some ⟨g2745, 0, none⟩)), (14, .bool (decide ((l2708.length : Int) ≥ a2707)))] #[true, true, true, true, true, true, true, true, true, true] (by kernel_rfl) (by kernel_rfl) ?_
  refine ED.done (by kernel_rfl) ?_
  refine EQ.code ?_
  refine EW.condP (o := (.tmp 14)) (x := Cd20.r.l.r.l) (y := Cd20.r.l.r.r) ((l2708.length : Int) ≥ a2707) (by kernel_rfl) (by kernel_rfl) (fun h2747 => ?_) (fun h2747 => ?_)
  · rw [if_pos h2747] at H
    refine EW.seq (x := Cd20.r.l.r.l.l) (y := Cd20.r.l.r.l.r) (by kernel_rfl) ?_
    refine EW.region (id := 2) (ops := Cd20.r.l.r.l.l.ops) (by kernel_rfl) ?_
    refine EL.quick 1 [4] [(4, .bool (false))] (by kernel_rfl) ?_
    refine EL.done (by kernel_rfl) ?_
    refine EQ.code ?_
    refine EW.ret (by kernel_rfl) ?_
    refine EQ.ret ?_
    simp only [Option.some.injEq, Prod.mk.injEq] at H
    obtain ⟨rfl, rfl, rfl⟩ := H
    exact EQ.leave (.bool (false)) (by kernel_rfl) ⟨_, rfl, A2709, C2710, rfl, (hS.re [1] [1] rfl (sub_cons 0 rfl (sub_self)))⟩
  · rw [if_neg h2747] at H
    refine EW.skip (by kernel_rfl) ?_
    refine EQ.code ?_
    refine EW.seq (x := Cd20.r.r.l) (y := Cd20.r.r.r) (by kernel_rfl) ?_
    obtain ⟨h2748, H⟩ := ite_in H
    obtain ⟨l2749, hl2749, H⟩ := lt_out H
    obtain ⟨l2753, hl2753, H⟩ := lt_out H
    obtain ⟨h2754, H⟩ := ite_in H
    obtain ⟨l2755, hl2755, H⟩ := lt_out H
    refine EW.meet (id := 3) (ops := Cd20.r.r.l.ops) (fun a w => ∃ A2773 : Option Addr, ∃ C2774 : Nat, ∃ A2775 : Option Addr, ∃ C2776 : Nat, Sat 26 [] a ∧ St B w (Ass.own 37 kS37 A2773 C2774 l2753 :: Ass.own 37 kS37 A2775 C2776 l2755 :: Ass.box 37 g2745 [.int .i32 a2711, .int .i64 a2712, .int .i64 a2713, .slice A2715 l2714.length C2716, .int .i32 a2717, .int .i32 a2718, .int .i32 a2719, .int .i32 a2720, .int .i64 a2721, .int .i64 a2722, .int .u32 a2723, .int .i64 a2724] :: Ass.box 32 g2706 [.int .i64 a2707, .slice A2775 l2755.length C2776] :: os) (Ro.sl kS37 A2709 C2710 l2708 :: Ro.sl (Kd.int .i32) A2715 C2716 l2714 :: rs)) (by kernel_rfl) ?_ (fun a w hI => ?_)
    · have hS := hS.drew
      refine EW.draw (B := B) (id := 3) (ops := Cd20.r.r.l.ops) [Ass.box 37 g2745 [.int .i32 a2711, .int .i64 a2712, .int .i64 a2713, .slice A2715 l2714.length C2716, .int .i32 a2717, .int .i32 a2718, .int .i32 a2719, .int .i32 a2720, .int .i64 a2721, .int .i64 a2722, .int .u32 a2723, .int .i64 a2724]] [Ro.sl kS37 A2709 C2710 l2708, Ro.sl (Kd.int .i32) A2715 C2716 l2714] (by kernel_rfl) (by kernel_rfl) ?_
      have hN : Region.noSelect Cd20.r.r.l.ops = true := (by kernel_rfl)
      have hF : freeAll Cd20.r.r.l.ops = true := (by kernel_rfl)
      have hC : Core B [Ass.box 37 g2745 [.int .i32 a2711, .int .i64 a2712, .int .i64 a2713, .slice A2715 l2714.length C2716, .int .i32 a2717, .int .i32 a2718, .int .i32 a2719, .int .i32 a2720, .int .i64 a2721, .int .i64 a2722, .int .u32 a2723, .int .i64 a2724]] [Ro.sl kS37 A2709 C2710 l2708, Ro.sl (Kd.int .i32) A2715 C2716 l2714] _ := ⟨_, _, hS⟩
      refine ED.quick hN hF hC [0, 1, 2, 3] [3, 15, 18] 8 [(3, .pointer (some ⟨g2745, 0, none⟩)), (15, .pointer (some ⟨g2706, 0, none⟩)), (18, .pointer (some ⟨g2706, 1, none⟩))] #[true, true, true, true, false, false, false, false, false, false, false, false] (by kernel_rfl) (by kernel_rfl) ?_
      refine ED.Y hN hF hC 6 7 #[true, true, true, true, false, false, true, false, false, false, false, false] (by kernel_rfl) (by kernel_rfl) rfl (fun _ _ _ hS => YO.loadBox hS 0 rfl 37 0 12 (.agg #[.int .i32 a2711, .int .i64 a2712, .int .i64 a2713, .slice A2715 l2714.length C2716, .int .i32 a2717, .int .i32 a2718, .int .i32 a2719, .int .i32 a2720, .int .i64 a2721, .int .i64 a2722, .int .u32 a2723, .int .i64 a2724]) 21 (by kernel_rfl) (by kernel_rfl) (by kernel_rfl) (by kernel_rfl)) ?_
      refine ED.two 4 7 6 (by kernel_rfl) (by kernel_rfl) ?_ ?_
      · refine EO.Y (YO.loadBox hS 1 rfl 30 1 1 (.slice A2709 l2708.length C2710) 19 (by kernel_rfl) (by kernel_rfl) (by kernel_rfl) (by kernel_rfl)) ?_
        have hC : Core B [Ass.box 37 g2745 [.int .i32 a2711, .int .i64 a2712, .int .i64 a2713, .slice A2715 l2714.length C2716, .int .i32 a2717, .int .i32 a2718, .int .i32 a2719, .int .i32 a2720, .int .i64 a2721, .int .i64 a2722, .int .u32 a2723, .int .i64 a2724]] [Ro.sl kS37 A2709 C2710 l2708, Ro.sl (Kd.int .i32) A2715 C2716 l2714] _ := ⟨_, _, hS⟩
        refine ⟨hC, ?_⟩
        refine ED.at' #[true, true, true, true, true, false, true, false, false, false, false, false] (by kernel_rfl) ?_
        refine ED.two 5 7 5 (by kernel_rfl) (by kernel_rfl) ?_ ?_
        · have hS := St.nilO hS 37 kS37
          refine EO.append hS 30 30 37 96 0 kS37 none 0 ([] : List S37) rfl A2709 C2710 l2708 (Rd.ro 0 rfl) l2749 hl2749 (fun A2777 C2778 => Ass.own 37 kS37 A2777 C2778 l2749 :: Ass.box 37 g2745 [.int .i32 a2711, .int .i64 a2712, .int .i64 a2713, .slice A2715 l2714.length C2716, .int .i32 a2717, .int .i32 a2718, .int .i32 a2719, .int .i32 a2720, .int .i64 a2721, .int .i64 a2722, .int .u32 a2723, .int .i64 a2724] :: Ass.box 32 g2706 [.int .i64 a2707, .slice A2709 l2708.length C2710] :: os) 20 (by kernel_rfl) (by kernel_rfl) (by kernel_rfl) (by kernel_rfl) h2748 (fun _ _ => rfl) ?_
          intro A2777 C2778 w hS
          have hC : Core B [Ass.box 37 g2745 [.int .i32 a2711, .int .i64 a2712, .int .i64 a2713, .slice A2715 l2714.length C2716, .int .i32 a2717, .int .i32 a2718, .int .i32 a2719, .int .i32 a2720, .int .i64 a2721, .int .i64 a2722, .int .u32 a2723, .int .i64 a2724]] [Ro.sl kS37 A2709 C2710 l2708, Ro.sl (Kd.int .i32) A2715 C2716 l2714] _ := ⟨_, _, hS.re [1] [] rfl sub_self⟩
          refine ⟨hC, ?_⟩
          refine ED.at' #[true, true, true, true, true, true, true, false, false, false, false, false] (by kernel_rfl) ?_
          refine ED.one 7 4 #[true, true, true, true, true, true, true, true, false, false, false, false] (by kernel_rfl) (by kernel_rfl) (by kernel_rfl) (EO.lit hS kS37 37 30 1 #[(0, .agg #[.int .i32 a2711, .int .i64 a2712, .int .i64 a2713, .slice A2715 l2714.length C2716, .int .i32 a2717, .int .i32 a2718, .int .i32 a2719, .int .i32 a2720, .int .i64 a2721, .int .i64 a2722, .int .u32 a2723, .int .i64 a2724])] [.int .i32 a2711, .int .i64 a2712, .int .i64 a2713, .slice A2715 l2714.length C2716, .int .i32 a2717, .int .i32 a2718, .int .i32 a2719, .int .i32 a2720, .int .i64 a2721, .int .i64 a2722, .int .u32 a2723, .int .i64 a2724] l2753 22 (by kernel_rfl) (by kernel_rfl) (by kernel_rfl) (fun _ => (by kernel_rfl)) (by rw [hl2753]; rfl) (by kernel_rfl) (fun w G hr => (by rw [hl2753]; exact ⟨[.int .i32 a2711, .int .i64 a2712, .int .i64 a2713, .slice A2715 l2714.length C2716, .int .i32 a2717, .int .i32 a2718, .int .i32 a2719, .int .i32 a2720, .int .i64 a2721, .int .i64 a2722, .int .u32 a2723, .int .i64 a2724], [], rfl, ⟨[.int .i32 a2711], [.int .i64 a2712, .int .i64 a2713, .slice A2715 l2714.length C2716, .int .i32 a2717, .int .i32 a2718, .int .i32 a2719, .int .i32 a2720, .int .i64 a2721, .int .i64 a2722, .int .u32 a2723, .int .i64 a2724], rfl, rfl, ⟨[.int .i64 a2712], [.int .i64 a2713, .slice A2715 l2714.length C2716, .int .i32 a2717, .int .i32 a2718, .int .i32 a2719, .int .i32 a2720, .int .i64 a2721, .int .i64 a2722, .int .u32 a2723, .int .i64 a2724], rfl, rfl, ⟨[.int .i64 a2713], [.slice A2715 l2714.length C2716, .int .i32 a2717, .int .i32 a2718, .int .i32 a2719, .int .i32 a2720, .int .i64 a2721, .int .i64 a2722, .int .u32 a2723, .int .i64 a2724], rfl, rfl, ⟨[.slice A2715 l2714.length C2716], [.int .i32 a2717, .int .i32 a2718, .int .i32 a2719, .int .i32 a2720, .int .i64 a2721, .int .i64 a2722, .int .u32 a2723, .int .i64 a2724], rfl, (hr _ (List.mem_of_getElem? (i := 1) rfl)), ⟨[.int .i32 a2717, .int .i32 a2718, .int .i32 a2719, .int .i32 a2720], [.int .i64 a2721, .int .i64 a2722, .int .u32 a2723, .int .i64 a2724], rfl, ⟨[.int .i32 a2717], [.int .i32 a2718, .int .i32 a2719, .int .i32 a2720], rfl, rfl, ⟨[.int .i32 a2718], [.int .i32 a2719, .int .i32 a2720], rfl, rfl, ⟨[.int .i32 a2719], [.int .i32 a2720], rfl, rfl, ⟨[.int .i32 a2720], [], rfl, rfl, rfl⟩⟩⟩⟩, ⟨[.int .i64 a2721], [.int .i64 a2722, .int .u32 a2723, .int .i64 a2724], rfl, rfl, ⟨[.int .i64 a2722], [.int .u32 a2723, .int .i64 a2724], rfl, rfl, ⟨[.int .u32 a2723], [.int .i64 a2724], rfl, rfl, ⟨[.int .i64 a2724], [], rfl, rfl, rfl⟩⟩⟩⟩⟩⟩⟩⟩⟩, rfl⟩)) ?_)
          intro g2779 w hS
          have hC : Core B [Ass.box 37 g2745 [.int .i32 a2711, .int .i64 a2712, .int .i64 a2713, .slice A2715 l2714.length C2716, .int .i32 a2717, .int .i32 a2718, .int .i32 a2719, .int .i32 a2720, .int .i64 a2721, .int .i64 a2722, .int .u32 a2723, .int .i64 a2724]] [Ro.sl kS37 A2709 C2710 l2708, Ro.sl (Kd.int .i32) A2715 C2716 l2714] _ := ⟨_, _, hS.re [2] [] rfl sub_self⟩
          refine ⟨hC, ?_⟩
          refine ED.one 8 3 #[true, true, true, true, true, true, true, true, true, false, false, false] (by kernel_rfl) (by kernel_rfl) (by kernel_rfl) (EO.append hS 30 30 37 96 1 kS37 A2777 C2778 l2749 rfl (some ⟨g2779, 0, none⟩) 1 l2753 (Rd.own 0 37 rfl) l2755 hl2755 (fun A2780 C2781 => Ass.own 37 kS37 (some ⟨g2779, 0, none⟩) 1 l2753 :: Ass.own 37 kS37 A2780 C2781 l2755 :: Ass.box 37 g2745 [.int .i32 a2711, .int .i64 a2712, .int .i64 a2713, .slice A2715 l2714.length C2716, .int .i32 a2717, .int .i32 a2718, .int .i32 a2719, .int .i32 a2720, .int .i64 a2721, .int .i64 a2722, .int .u32 a2723, .int .i64 a2724] :: Ass.box 32 g2706 [.int .i64 a2707, .slice A2709 l2708.length C2710] :: os) 23 (by kernel_rfl) (by kernel_rfl) (by kernel_rfl) (by kernel_rfl) h2754 (fun _ _ => rfl) ?_)
          intro A2780 C2781 w hS
          have hC : Core B [Ass.box 37 g2745 [.int .i32 a2711, .int .i64 a2712, .int .i64 a2713, .slice A2715 l2714.length C2716, .int .i32 a2717, .int .i32 a2718, .int .i32 a2719, .int .i32 a2720, .int .i64 a2721, .int .i64 a2722, .int .u32 a2723, .int .i64 a2724]] [Ro.sl kS37 A2709 C2710 l2708, Ro.sl (Kd.int .i32) A2715 C2716 l2714] _ := ⟨_, _, hS.re [2] [] rfl sub_self⟩
          refine ⟨hC, ?_⟩
          refine ED.quick hN hF hC [9, 10] [23, 25] 1 [(23, .slice A2780 l2755.length C2781), (25, .pointer (some ⟨g2706, 1, none⟩))] #[true, true, true, true, true, true, true, true, true, true, true, false] (by kernel_rfl) (by kernel_rfl) ?_
          refine ED.one 11 0 #[true, true, true, true, true, true, true, true, true, true, true, true] (by kernel_rfl) (by kernel_rfl) (by kernel_rfl) (EO.storeBox (os' := Ass.own 37 kS37 (some ⟨g2779, 0, none⟩) 1 l2753 :: Ass.own 37 kS37 A2780 C2781 l2755 :: Ass.box 37 g2745 [.int .i32 a2711, .int .i64 a2712, .int .i64 a2713, .slice A2715 l2714.length C2716, .int .i32 a2717, .int .i32 a2718, .int .i32 a2719, .int .i32 a2720, .int .i64 a2721, .int .i64 a2722, .int .u32 a2723, .int .i64 a2724] :: Ass.box 32 g2706 [.int .i64 a2707, .slice A2780 l2755.length C2781] :: os) hS 3 rfl 30 1 (.slice A2780 l2755.length C2781) [.int .i64 a2707, .slice A2780 l2755.length C2781] (by kernel_rfl) (by kernel_rfl) (by kernel_rfl) (by kernel_rfl) (by kernel_rfl) (by kernel_rfl) rfl rfl ?_)
          intro w hS
          have hC : Core B [Ass.box 37 g2745 [.int .i32 a2711, .int .i64 a2712, .int .i64 a2713, .slice A2715 l2714.length C2716, .int .i32 a2717, .int .i32 a2718, .int .i32 a2719, .int .i32 a2720, .int .i64 a2721, .int .i64 a2722, .int .u32 a2723, .int .i64 a2724]] [Ro.sl kS37 A2709 C2710 l2708, Ro.sl (Kd.int .i32) A2715 C2716 l2714] _ := ⟨_, _, hS.re [2] [] rfl sub_self⟩
          refine ⟨hC, ?_⟩
          refine ED.done (by kernel_rfl) ?_
          refine EQ.to ?_
          refine EQ.keep [] [] (by kernel_rfl) ?_
          exact fun a ha => ⟨(some ⟨g2779, 0, none⟩), 1, A2780, C2781, ha, (hS.re [3, 3, 3, 3] [] rfl (sub_cons 0 rfl (sub_cons 1 rfl (sub_tail (sub_tail (sub_self))))))⟩
        · refine EO.lit hS kS37 37 30 1 #[(0, .agg #[.int .i32 a2711, .int .i64 a2712, .int .i64 a2713, .slice A2715 l2714.length C2716, .int .i32 a2717, .int .i32 a2718, .int .i32 a2719, .int .i32 a2720, .int .i64 a2721, .int .i64 a2722, .int .u32 a2723, .int .i64 a2724])] [.int .i32 a2711, .int .i64 a2712, .int .i64 a2713, .slice A2715 l2714.length C2716, .int .i32 a2717, .int .i32 a2718, .int .i32 a2719, .int .i32 a2720, .int .i64 a2721, .int .i64 a2722, .int .u32 a2723, .int .i64 a2724] l2753 22 (by kernel_rfl) (by kernel_rfl) (by kernel_rfl) (fun _ => (by kernel_rfl)) (by rw [hl2753]; rfl) (by kernel_rfl) (fun w G hr => (by rw [hl2753]; exact ⟨[.int .i32 a2711, .int .i64 a2712, .int .i64 a2713, .slice A2715 l2714.length C2716, .int .i32 a2717, .int .i32 a2718, .int .i32 a2719, .int .i32 a2720, .int .i64 a2721, .int .i64 a2722, .int .u32 a2723, .int .i64 a2724], [], rfl, ⟨[.int .i32 a2711], [.int .i64 a2712, .int .i64 a2713, .slice A2715 l2714.length C2716, .int .i32 a2717, .int .i32 a2718, .int .i32 a2719, .int .i32 a2720, .int .i64 a2721, .int .i64 a2722, .int .u32 a2723, .int .i64 a2724], rfl, rfl, ⟨[.int .i64 a2712], [.int .i64 a2713, .slice A2715 l2714.length C2716, .int .i32 a2717, .int .i32 a2718, .int .i32 a2719, .int .i32 a2720, .int .i64 a2721, .int .i64 a2722, .int .u32 a2723, .int .i64 a2724], rfl, rfl, ⟨[.int .i64 a2713], [.slice A2715 l2714.length C2716, .int .i32 a2717, .int .i32 a2718, .int .i32 a2719, .int .i32 a2720, .int .i64 a2721, .int .i64 a2722, .int .u32 a2723, .int .i64 a2724], rfl, rfl, ⟨[.slice A2715 l2714.length C2716], [.int .i32 a2717, .int .i32 a2718, .int .i32 a2719, .int .i32 a2720, .int .i64 a2721, .int .i64 a2722, .int .u32 a2723, .int .i64 a2724], rfl, (hr _ (List.mem_of_getElem? (i := 1) rfl)), ⟨[.int .i32 a2717, .int .i32 a2718, .int .i32 a2719, .int .i32 a2720], [.int .i64 a2721, .int .i64 a2722, .int .u32 a2723, .int .i64 a2724], rfl, ⟨[.int .i32 a2717], [.int .i32 a2718, .int .i32 a2719, .int .i32 a2720], rfl, rfl, ⟨[.int .i32 a2718], [.int .i32 a2719, .int .i32 a2720], rfl, rfl, ⟨[.int .i32 a2719], [.int .i32 a2720], rfl, rfl, ⟨[.int .i32 a2720], [], rfl, rfl, rfl⟩⟩⟩⟩, ⟨[.int .i64 a2721], [.int .i64 a2722, .int .u32 a2723, .int .i64 a2724], rfl, rfl, ⟨[.int .i64 a2722], [.int .u32 a2723, .int .i64 a2724], rfl, rfl, ⟨[.int .u32 a2723], [.int .i64 a2724], rfl, rfl, ⟨[.int .i64 a2724], [], rfl, rfl, rfl⟩⟩⟩⟩⟩⟩⟩⟩⟩, rfl⟩)) ?_
          intro g2782 w hS
          have hC : Core B [Ass.box 37 g2745 [.int .i32 a2711, .int .i64 a2712, .int .i64 a2713, .slice A2715 l2714.length C2716, .int .i32 a2717, .int .i32 a2718, .int .i32 a2719, .int .i32 a2720, .int .i64 a2721, .int .i64 a2722, .int .u32 a2723, .int .i64 a2724]] [Ro.sl kS37 A2709 C2710 l2708, Ro.sl (Kd.int .i32) A2715 C2716 l2714] _ := ⟨_, _, hS.re [1] [] rfl sub_self⟩
          refine ⟨hC, ?_⟩
          refine ED.at' #[true, true, true, true, true, false, true, true, false, false, false, false] (by kernel_rfl) ?_
          have hS := St.nilO hS 37 kS37
          refine ED.one 5 4 #[true, true, true, true, true, true, true, true, false, false, false, false] (by kernel_rfl) (by kernel_rfl) (by kernel_rfl) (EO.append hS 30 30 37 96 0 kS37 none 0 ([] : List S37) rfl A2709 C2710 l2708 (Rd.ro 0 rfl) l2749 hl2749 (fun A2783 C2784 => Ass.own 37 kS37 A2783 C2784 l2749 :: Ass.own 37 kS37 (some ⟨g2782, 0, none⟩) 1 l2753 :: Ass.box 37 g2745 [.int .i32 a2711, .int .i64 a2712, .int .i64 a2713, .slice A2715 l2714.length C2716, .int .i32 a2717, .int .i32 a2718, .int .i32 a2719, .int .i32 a2720, .int .i64 a2721, .int .i64 a2722, .int .u32 a2723, .int .i64 a2724] :: Ass.box 32 g2706 [.int .i64 a2707, .slice A2709 l2708.length C2710] :: os) 20 (by kernel_rfl) (by kernel_rfl) (by kernel_rfl) (by kernel_rfl) h2748 (fun _ _ => rfl) ?_)
          intro A2783 C2784 w hS
          have hC : Core B [Ass.box 37 g2745 [.int .i32 a2711, .int .i64 a2712, .int .i64 a2713, .slice A2715 l2714.length C2716, .int .i32 a2717, .int .i32 a2718, .int .i32 a2719, .int .i32 a2720, .int .i64 a2721, .int .i64 a2722, .int .u32 a2723, .int .i64 a2724]] [Ro.sl kS37 A2709 C2710 l2708, Ro.sl (Kd.int .i32) A2715 C2716 l2714] _ := ⟨_, _, hS.re [2] [] rfl sub_self⟩
          refine ⟨hC, ?_⟩
          refine ED.one 8 3 #[true, true, true, true, true, true, true, true, true, false, false, false] (by kernel_rfl) (by kernel_rfl) (by kernel_rfl) (EO.append hS 30 30 37 96 0 kS37 A2783 C2784 l2749 rfl (some ⟨g2782, 0, none⟩) 1 l2753 (Rd.own 1 37 rfl) l2755 hl2755 (fun A2785 C2786 => Ass.own 37 kS37 A2785 C2786 l2755 :: Ass.own 37 kS37 (some ⟨g2782, 0, none⟩) 1 l2753 :: Ass.box 37 g2745 [.int .i32 a2711, .int .i64 a2712, .int .i64 a2713, .slice A2715 l2714.length C2716, .int .i32 a2717, .int .i32 a2718, .int .i32 a2719, .int .i32 a2720, .int .i64 a2721, .int .i64 a2722, .int .u32 a2723, .int .i64 a2724] :: Ass.box 32 g2706 [.int .i64 a2707, .slice A2709 l2708.length C2710] :: os) 23 (by kernel_rfl) (by kernel_rfl) (by kernel_rfl) (by kernel_rfl) h2754 (fun _ _ => rfl) ?_)
          intro A2785 C2786 w hS
          have hC : Core B [Ass.box 37 g2745 [.int .i32 a2711, .int .i64 a2712, .int .i64 a2713, .slice A2715 l2714.length C2716, .int .i32 a2717, .int .i32 a2718, .int .i32 a2719, .int .i32 a2720, .int .i64 a2721, .int .i64 a2722, .int .u32 a2723, .int .i64 a2724]] [Ro.sl kS37 A2709 C2710 l2708, Ro.sl (Kd.int .i32) A2715 C2716 l2714] _ := ⟨_, _, hS.re [2] [] rfl sub_self⟩
          refine ⟨hC, ?_⟩
          refine ED.quick hN hF hC [9, 10] [23, 25] 1 [(23, .slice A2785 l2755.length C2786), (25, .pointer (some ⟨g2706, 1, none⟩))] #[true, true, true, true, true, true, true, true, true, true, true, false] (by kernel_rfl) (by kernel_rfl) ?_
          refine ED.one 11 0 #[true, true, true, true, true, true, true, true, true, true, true, true] (by kernel_rfl) (by kernel_rfl) (by kernel_rfl) (EO.storeBox (os' := Ass.own 37 kS37 A2785 C2786 l2755 :: Ass.own 37 kS37 (some ⟨g2782, 0, none⟩) 1 l2753 :: Ass.box 37 g2745 [.int .i32 a2711, .int .i64 a2712, .int .i64 a2713, .slice A2715 l2714.length C2716, .int .i32 a2717, .int .i32 a2718, .int .i32 a2719, .int .i32 a2720, .int .i64 a2721, .int .i64 a2722, .int .u32 a2723, .int .i64 a2724] :: Ass.box 32 g2706 [.int .i64 a2707, .slice A2785 l2755.length C2786] :: os) hS 3 rfl 30 1 (.slice A2785 l2755.length C2786) [.int .i64 a2707, .slice A2785 l2755.length C2786] (by kernel_rfl) (by kernel_rfl) (by kernel_rfl) (by kernel_rfl) (by kernel_rfl) (by kernel_rfl) rfl rfl ?_)
          intro w hS
          have hC : Core B [Ass.box 37 g2745 [.int .i32 a2711, .int .i64 a2712, .int .i64 a2713, .slice A2715 l2714.length C2716, .int .i32 a2717, .int .i32 a2718, .int .i32 a2719, .int .i32 a2720, .int .i64 a2721, .int .i64 a2722, .int .u32 a2723, .int .i64 a2724]] [Ro.sl kS37 A2709 C2710 l2708, Ro.sl (Kd.int .i32) A2715 C2716 l2714] _ := ⟨_, _, hS.re [2] [] rfl sub_self⟩
          refine ⟨hC, ?_⟩
          refine ED.done (by kernel_rfl) ?_
          refine EQ.to ?_
          refine EQ.keep [] [] (by kernel_rfl) ?_
          exact fun a ha => ⟨(some ⟨g2782, 0, none⟩), 1, A2785, C2786, ha, (hS.re [3, 3, 2, 3] [] rfl (sub_cons 0 rfl (sub_cons 1 rfl (sub_tail (sub_tail (sub_self))))))⟩
      · refine EO.lit hS kS37 37 30 1 #[(0, .agg #[.int .i32 a2711, .int .i64 a2712, .int .i64 a2713, .slice A2715 l2714.length C2716, .int .i32 a2717, .int .i32 a2718, .int .i32 a2719, .int .i32 a2720, .int .i64 a2721, .int .i64 a2722, .int .u32 a2723, .int .i64 a2724])] [.int .i32 a2711, .int .i64 a2712, .int .i64 a2713, .slice A2715 l2714.length C2716, .int .i32 a2717, .int .i32 a2718, .int .i32 a2719, .int .i32 a2720, .int .i64 a2721, .int .i64 a2722, .int .u32 a2723, .int .i64 a2724] l2753 22 (by kernel_rfl) (by kernel_rfl) (by kernel_rfl) (fun _ => (by kernel_rfl)) (by rw [hl2753]; rfl) (by kernel_rfl) (fun w G hr => (by rw [hl2753]; exact ⟨[.int .i32 a2711, .int .i64 a2712, .int .i64 a2713, .slice A2715 l2714.length C2716, .int .i32 a2717, .int .i32 a2718, .int .i32 a2719, .int .i32 a2720, .int .i64 a2721, .int .i64 a2722, .int .u32 a2723, .int .i64 a2724], [], rfl, ⟨[.int .i32 a2711], [.int .i64 a2712, .int .i64 a2713, .slice A2715 l2714.length C2716, .int .i32 a2717, .int .i32 a2718, .int .i32 a2719, .int .i32 a2720, .int .i64 a2721, .int .i64 a2722, .int .u32 a2723, .int .i64 a2724], rfl, rfl, ⟨[.int .i64 a2712], [.int .i64 a2713, .slice A2715 l2714.length C2716, .int .i32 a2717, .int .i32 a2718, .int .i32 a2719, .int .i32 a2720, .int .i64 a2721, .int .i64 a2722, .int .u32 a2723, .int .i64 a2724], rfl, rfl, ⟨[.int .i64 a2713], [.slice A2715 l2714.length C2716, .int .i32 a2717, .int .i32 a2718, .int .i32 a2719, .int .i32 a2720, .int .i64 a2721, .int .i64 a2722, .int .u32 a2723, .int .i64 a2724], rfl, rfl, ⟨[.slice A2715 l2714.length C2716], [.int .i32 a2717, .int .i32 a2718, .int .i32 a2719, .int .i32 a2720, .int .i64 a2721, .int .i64 a2722, .int .u32 a2723, .int .i64 a2724], rfl, (hr _ (List.mem_of_getElem? (i := 1) rfl)), ⟨[.int .i32 a2717, .int .i32 a2718, .int .i32 a2719, .int .i32 a2720], [.int .i64 a2721, .int .i64 a2722, .int .u32 a2723, .int .i64 a2724], rfl, ⟨[.int .i32 a2717], [.int .i32 a2718, .int .i32 a2719, .int .i32 a2720], rfl, rfl, ⟨[.int .i32 a2718], [.int .i32 a2719, .int .i32 a2720], rfl, rfl, ⟨[.int .i32 a2719], [.int .i32 a2720], rfl, rfl, ⟨[.int .i32 a2720], [], rfl, rfl, rfl⟩⟩⟩⟩, ⟨[.int .i64 a2721], [.int .i64 a2722, .int .u32 a2723, .int .i64 a2724], rfl, rfl, ⟨[.int .i64 a2722], [.int .u32 a2723, .int .i64 a2724], rfl, rfl, ⟨[.int .u32 a2723], [.int .i64 a2724], rfl, rfl, ⟨[.int .i64 a2724], [], rfl, rfl, rfl⟩⟩⟩⟩⟩⟩⟩⟩⟩, rfl⟩)) ?_
        intro g2787 w hS
        have hC : Core B [Ass.box 37 g2745 [.int .i32 a2711, .int .i64 a2712, .int .i64 a2713, .slice A2715 l2714.length C2716, .int .i32 a2717, .int .i32 a2718, .int .i32 a2719, .int .i32 a2720, .int .i64 a2721, .int .i64 a2722, .int .u32 a2723, .int .i64 a2724]] [Ro.sl kS37 A2709 C2710 l2708, Ro.sl (Kd.int .i32) A2715 C2716 l2714] _ := ⟨_, _, hS.re [1] [] rfl sub_self⟩
        refine ⟨hC, ?_⟩
        refine ED.at' #[true, true, true, true, false, false, true, true, false, false, false, false] (by kernel_rfl) ?_
        refine ED.one 4 5 #[true, true, true, true, true, false, true, true, false, false, false, false] (by kernel_rfl) (by kernel_rfl) (by kernel_rfl) (EO.Y (YO.loadBox hS 2 rfl 30 1 1 (.slice A2709 l2708.length C2710) 19 (by kernel_rfl) (by kernel_rfl) (by kernel_rfl) (by kernel_rfl)) ?_)
        have hC : Core B [Ass.box 37 g2745 [.int .i32 a2711, .int .i64 a2712, .int .i64 a2713, .slice A2715 l2714.length C2716, .int .i32 a2717, .int .i32 a2718, .int .i32 a2719, .int .i32 a2720, .int .i64 a2721, .int .i64 a2722, .int .u32 a2723, .int .i64 a2724]] [Ro.sl kS37 A2709 C2710 l2708, Ro.sl (Kd.int .i32) A2715 C2716 l2714] _ := ⟨_, _, hS.re [1] [] rfl sub_self⟩
        refine ⟨hC, ?_⟩
        have hS := St.nilO hS 37 kS37
        refine ED.one 5 4 #[true, true, true, true, true, true, true, true, false, false, false, false] (by kernel_rfl) (by kernel_rfl) (by kernel_rfl) (EO.append hS 30 30 37 96 0 kS37 none 0 ([] : List S37) rfl A2709 C2710 l2708 (Rd.ro 0 rfl) l2749 hl2749 (fun A2788 C2789 => Ass.own 37 kS37 A2788 C2789 l2749 :: Ass.own 37 kS37 (some ⟨g2787, 0, none⟩) 1 l2753 :: Ass.box 37 g2745 [.int .i32 a2711, .int .i64 a2712, .int .i64 a2713, .slice A2715 l2714.length C2716, .int .i32 a2717, .int .i32 a2718, .int .i32 a2719, .int .i32 a2720, .int .i64 a2721, .int .i64 a2722, .int .u32 a2723, .int .i64 a2724] :: Ass.box 32 g2706 [.int .i64 a2707, .slice A2709 l2708.length C2710] :: os) 20 (by kernel_rfl) (by kernel_rfl) (by kernel_rfl) (by kernel_rfl) h2748 (fun _ _ => rfl) ?_)
        intro A2788 C2789 w hS
        have hC : Core B [Ass.box 37 g2745 [.int .i32 a2711, .int .i64 a2712, .int .i64 a2713, .slice A2715 l2714.length C2716, .int .i32 a2717, .int .i32 a2718, .int .i32 a2719, .int .i32 a2720, .int .i64 a2721, .int .i64 a2722, .int .u32 a2723, .int .i64 a2724]] [Ro.sl kS37 A2709 C2710 l2708, Ro.sl (Kd.int .i32) A2715 C2716 l2714] _ := ⟨_, _, hS.re [2] [] rfl sub_self⟩
        refine ⟨hC, ?_⟩
        refine ED.one 8 3 #[true, true, true, true, true, true, true, true, true, false, false, false] (by kernel_rfl) (by kernel_rfl) (by kernel_rfl) (EO.append hS 30 30 37 96 0 kS37 A2788 C2789 l2749 rfl (some ⟨g2787, 0, none⟩) 1 l2753 (Rd.own 1 37 rfl) l2755 hl2755 (fun A2790 C2791 => Ass.own 37 kS37 A2790 C2791 l2755 :: Ass.own 37 kS37 (some ⟨g2787, 0, none⟩) 1 l2753 :: Ass.box 37 g2745 [.int .i32 a2711, .int .i64 a2712, .int .i64 a2713, .slice A2715 l2714.length C2716, .int .i32 a2717, .int .i32 a2718, .int .i32 a2719, .int .i32 a2720, .int .i64 a2721, .int .i64 a2722, .int .u32 a2723, .int .i64 a2724] :: Ass.box 32 g2706 [.int .i64 a2707, .slice A2709 l2708.length C2710] :: os) 23 (by kernel_rfl) (by kernel_rfl) (by kernel_rfl) (by kernel_rfl) h2754 (fun _ _ => rfl) ?_)
        intro A2790 C2791 w hS
        have hC : Core B [Ass.box 37 g2745 [.int .i32 a2711, .int .i64 a2712, .int .i64 a2713, .slice A2715 l2714.length C2716, .int .i32 a2717, .int .i32 a2718, .int .i32 a2719, .int .i32 a2720, .int .i64 a2721, .int .i64 a2722, .int .u32 a2723, .int .i64 a2724]] [Ro.sl kS37 A2709 C2710 l2708, Ro.sl (Kd.int .i32) A2715 C2716 l2714] _ := ⟨_, _, hS.re [2] [] rfl sub_self⟩
        refine ⟨hC, ?_⟩
        refine ED.quick hN hF hC [9, 10] [23, 25] 1 [(23, .slice A2790 l2755.length C2791), (25, .pointer (some ⟨g2706, 1, none⟩))] #[true, true, true, true, true, true, true, true, true, true, true, false] (by kernel_rfl) (by kernel_rfl) ?_
        refine ED.one 11 0 #[true, true, true, true, true, true, true, true, true, true, true, true] (by kernel_rfl) (by kernel_rfl) (by kernel_rfl) (EO.storeBox (os' := Ass.own 37 kS37 A2790 C2791 l2755 :: Ass.own 37 kS37 (some ⟨g2787, 0, none⟩) 1 l2753 :: Ass.box 37 g2745 [.int .i32 a2711, .int .i64 a2712, .int .i64 a2713, .slice A2715 l2714.length C2716, .int .i32 a2717, .int .i32 a2718, .int .i32 a2719, .int .i32 a2720, .int .i64 a2721, .int .i64 a2722, .int .u32 a2723, .int .i64 a2724] :: Ass.box 32 g2706 [.int .i64 a2707, .slice A2790 l2755.length C2791] :: os) hS 3 rfl 30 1 (.slice A2790 l2755.length C2791) [.int .i64 a2707, .slice A2790 l2755.length C2791] (by kernel_rfl) (by kernel_rfl) (by kernel_rfl) (by kernel_rfl) (by kernel_rfl) (by kernel_rfl) rfl rfl ?_)
        intro w hS
        have hC : Core B [Ass.box 37 g2745 [.int .i32 a2711, .int .i64 a2712, .int .i64 a2713, .slice A2715 l2714.length C2716, .int .i32 a2717, .int .i32 a2718, .int .i32 a2719, .int .i32 a2720, .int .i64 a2721, .int .i64 a2722, .int .u32 a2723, .int .i64 a2724]] [Ro.sl kS37 A2709 C2710 l2708, Ro.sl (Kd.int .i32) A2715 C2716 l2714] _ := ⟨_, _, hS.re [2] [] rfl sub_self⟩
        refine ⟨hC, ?_⟩
        refine ED.done (by kernel_rfl) ?_
        refine EQ.to ?_
        refine EQ.keep [] [] (by kernel_rfl) ?_
        exact fun a ha => ⟨(some ⟨g2787, 0, none⟩), 1, A2790, C2791, ha, (hS.re [3, 3, 2, 3] [] rfl (sub_cons 0 rfl (sub_cons 1 rfl (sub_tail (sub_tail (sub_self))))))⟩
    · obtain ⟨A2773, C2774, A2775, C2776, ha, hS⟩ := hI
      refine EQ.at ?_ a ha
      clear ha a
      refine EQ.code ?_
      refine EW.seq (x := Cd20.r.r.r.l) (y := Cd20.r.r.r.r) (by kernel_rfl) ?_
      refine EW.region (id := 4) (ops := Cd20.r.r.r.l.ops) (by kernel_rfl) ?_
      refine EL.quick 1 [4] [(4, .bool (true))] (by kernel_rfl) ?_
      refine EL.done (by kernel_rfl) ?_
      refine EQ.code ?_
      refine EW.ret (by kernel_rfl) ?_
      have hS := St.fr hS 1 rfl
      simp only [Option.some.injEq, Prod.mk.injEq] at H
      obtain ⟨rfl, rfl, rfl⟩ := H
      exact EQ.leave (.bool (true)) (by kernel_rfl) ⟨_, rfl, A2775, C2776, rfl, (hS.re [2] [1, 1] rfl (sub_cons 0 rfl (sub_tail (sub_self))))⟩

/-! ### (*confidant/confidantref15.Ring).Pop: function 22 -/
def confidantref15_Ring_Pop.f (K : Nat) (a2837 : Int) (l2838 : List S37) : Option (Int × List S37 × S37 × Bool) := if (IntKind.i64.wrap ((l2838.length : Int) - 1)) < 0 then (some (a2837, l2838, (⟨0, 0, 0, ([] : List Int), (⟨0, 0, 0, 0⟩ : S34), 0, 0, 0, 0⟩ : S37), false)) else (if 0 ≤ (IntKind.i64.wrap ((l2838.length : Int) - 1)) then (if (IntKind.i64.wrap ((l2838.length : Int) - 1)) < (l2838.length : Int) then (if (IntKind.i64.wrap ((l2838.length : Int) - 1)) ≤ (l2838.length : Int) then (lt (l2838.take ((IntKind.i64.wrap ((l2838.length : Int) - 1)).toNat)) fun l2890 => (some (a2837, l2890, (⟨(l2838.getD (IntKind.i64.wrap ((l2838.length : Int) - 1)).toNat zS37).f0, (l2838.getD (IntKind.i64.wrap ((l2838.length : Int) - 1)).toNat zS37).f1, (l2838.getD (IntKind.i64.wrap ((l2838.length : Int) - 1)).toNat zS37).f2, (l2838.getD (IntKind.i64.wrap ((l2838.length : Int) - 1)).toNat zS37).f3, (⟨(l2838.getD (IntKind.i64.wrap ((l2838.length : Int) - 1)).toNat zS37).f4.f0, (l2838.getD (IntKind.i64.wrap ((l2838.length : Int) - 1)).toNat zS37).f4.f1, (l2838.getD (IntKind.i64.wrap ((l2838.length : Int) - 1)).toNat zS37).f4.f2, (l2838.getD (IntKind.i64.wrap ((l2838.length : Int) - 1)).toNat zS37).f4.f3⟩ : S34), (l2838.getD (IntKind.i64.wrap ((l2838.length : Int) - 1)).toNat zS37).f5, (l2838.getD (IntKind.i64.wrap ((l2838.length : Int) - 1)).toNat zS37).f6, (l2838.getD (IntKind.i64.wrap ((l2838.length : Int) - 1)).toNat zS37).f7, (l2838.getD (IntKind.i64.wrap ((l2838.length : Int) - 1)).toNat zS37).f8⟩ : S37), true))) else none) else none) else none)
set_option maxRecDepth 100000 in
theorem confidantref15_Ring_Pop.calls {K : Nat} {a2837 : Int} {l2838 : List S37} {g2836 : Nat} {A2839 : Option Addr} {C2840 : Nat} {x2863 : Int} {x2864 : List S37} {x2867 : S37} {x2870 : Bool} {B w : World} {os : List Ass} {rs : List Ro} (H : confidantref15_Ring_Pop.f K a2837 l2838 = some (x2863, x2864, x2867, x2870)) (hS : St B w (Ass.box 32 g2836 [.int .i64 a2837, .slice A2839 l2838.length C2840] :: os) (Ro.sl kS37 A2839 C2840 l2838 :: rs)) :
    Calls Try.prog 22 [.pointer (some ⟨g2836, 0, none⟩)].toArray w (fun en w' => ∃ v, en = .returned v ∧ ∃ A2865 : Option Addr, ∃ C2866 : Nat, ∃ A2868 : Option Addr, ∃ C2869 : Nat, v = .tuple #[.agg #[.int .i32 x2867.f0, .int .i64 x2867.f1, .int .i64 x2867.f2, .slice A2868 x2867.f3.length C2869, .int .i32 x2867.f4.f0, .int .i32 x2867.f4.f1, .int .i32 x2867.f4.f2, .int .i32 x2867.f4.f3, .int .i64 x2867.f5, .int .i64 x2867.f6, .int .u32 x2867.f7, .int .i64 x2867.f8], .bool (x2870)] ∧ St B w' (Ass.box 32 g2836 [.int .i64 x2863, .slice A2865 x2864.length C2866] :: os) (Ro.sl kS37 A2865 C2866 x2864 :: Ro.sl (Kd.int .i32) A2868 C2869 x2867.f3 :: Ro.sl kS37 A2839 C2840 l2838 :: rs)) := by
  unfold confidantref15_Ring_Pop.f at H
  refine calls_of_EW (args := [.pointer (some ⟨g2836, 0, none⟩)]) (c := Cd22) 32 Try.func22 (by kernel_rfl) (by kernel_rfl) (by kernel_rfl) ?_
  refine EW.seq (x := Cd22.l) (y := Cd22.r) (by kernel_rfl) ?_
  refine EW.region (id := 0) (ops := Cd22.l.ops) (by kernel_rfl) ?_
  refine EL.of (EO.alloc hS 37 (.agg #[.int .i32 0, .int .i64 0, .int .i64 0, .slice none ([] : List Int).length 0, .int .i32 0, .int .i32 0, .int .i32 0, .int .i32 0, .int .i64 0, .int .i64 0, .int .u32 0, .int .i64 0]) [.int .i32 0, .int .i64 0, .int .i64 0, .slice none ([] : List Int).length 0, .int .i32 0, .int .i32 0, .int .i32 0, .int .i32 0, .int .i64 0, .int .i64 0, .int .u32 0, .int .i64 0] 2 (by kernel_rfl) (by kernel_rfl) (by kernel_rfl) (by kernel_rfl) (by first | rfl | kernel_rfl) ?_)
  intro g2872 w hS
  refine EL.quick 1 [0, 2] [(0, .pointer (some ⟨g2836, 0, none⟩)), (2, .pointer (some ⟨g2872, 0, none⟩))] (by kernel_rfl) ?_
  refine EL.done (by kernel_rfl) ?_
  refine EQ.code ?_
  refine EW.seq (x := Cd22.r.l) (y := Cd22.r.r) (by kernel_rfl) ?_
  refine EW.region (id := 1) (ops := Cd22.r.l.ops) (by kernel_rfl) ?_
  refine EL.quick 3 [0, 2, 8] [(0, .pointer (some ⟨g2836, 0, none⟩)), (2, .pointer (some ⟨g2872, 0, none⟩)), (8, .pointer (some ⟨g2836, 1, none⟩))] (by kernel_rfl) ?_
  refine EL.of (EO.Y (YO.loadBox hS 1 rfl 30 1 1 (.slice A2839 l2838.length C2840) 9 (by kernel_rfl) (by kernel_rfl) (by kernel_rfl) (by kernel_rfl)) ?_)
  refine EL.quick 3 [0, 2, 4] [(0, .pointer (some ⟨g2836, 0, none⟩)), (2, .pointer (some ⟨g2872, 0, none⟩)), (4, .int .i64 (IntKind.i64.wrap ((l2838.length : Int) - 1)))] (by kernel_rfl) ?_
  refine EL.done (by kernel_rfl) ?_
  refine EQ.code ?_
  refine EW.seq (x := Cd22.r.r.l) (y := Cd22.r.r.r) (by kernel_rfl) ?_
  refine EW.seq (x := Cd22.r.r.l.l) (y := Cd22.r.r.l.r) (by kernel_rfl) ?_
  refine EW.region (id := 2) (ops := Cd22.r.r.l.l.ops) (by kernel_rfl) ?_
  refine EL.quick 2 [0, 2, 4, 13] [(0, .pointer (some ⟨g2836, 0, none⟩)), (2, .pointer (some ⟨g2872, 0, none⟩)), (4, .int .i64 (IntKind.i64.wrap ((l2838.length : Int) - 1))), (13, .bool (decide ((IntKind.i64.wrap ((l2838.length : Int) - 1)) < 0)))] (by kernel_rfl) ?_
  refine EL.done (by kernel_rfl) ?_
  refine EQ.code ?_
  refine EW.condP (o := (.tmp 13)) (x := Cd22.r.r.l.r.l) (y := Cd22.r.r.l.r.r) ((IntKind.i64.wrap ((l2838.length : Int) - 1)) < 0) (by kernel_rfl) (by kernel_rfl) (fun h2874 => ?_) (fun h2874 => ?_)
  · rw [if_pos h2874] at H
    refine EW.seq (x := Cd22.r.r.l.r.l.l) (y := Cd22.r.r.l.r.l.r) (by kernel_rfl) ?_
    refine EW.region (id := 3) (ops := Cd22.r.r.l.r.l.l.ops) (by kernel_rfl) ?_
    refine EL.quick 1 [2, 14] [(2, .pointer (some ⟨g2872, 0, none⟩)), (14, .agg #[.int .i32 0, .int .i64 0, .int .i64 0, .slice none ([] : List Int).length 0, .int .i32 0, .int .i32 0, .int .i32 0, .int .i32 0, .int .i64 0, .int .i64 0, .int .u32 0, .int .i64 0])] (by kernel_rfl) ?_
    refine EL.of (EO.storeBox (os' := Ass.box 37 g2872 [.int .i32 0, .int .i64 0, .int .i64 0, .slice none ([] : List Int).length 0, .int .i32 0, .int .i32 0, .int .i32 0, .int .i32 0, .int .i64 0, .int .i64 0, .int .u32 0, .int .i64 0] :: Ass.box 32 g2836 [.int .i64 a2837, .slice A2839 l2838.length C2840] :: os) hS 0 rfl 37 0 (.agg #[.int .i32 0, .int .i64 0, .int .i64 0, .slice none ([] : List Int).length 0, .int .i32 0, .int .i32 0, .int .i32 0, .int .i32 0, .int .i64 0, .int .i64 0, .int .u32 0, .int .i64 0]) [.int .i32 0, .int .i64 0, .int .i64 0, .slice none ([] : List Int).length 0, .int .i32 0, .int .i32 0, .int .i32 0, .int .i32 0, .int .i64 0, .int .i64 0, .int .u32 0, .int .i64 0] (by kernel_rfl) (by kernel_rfl) (by kernel_rfl) (by kernel_rfl) (by kernel_rfl) (by kernel_rfl) rfl rfl ?_)
    intro w hS
    refine EL.quick 1 [2, 3] [(2, .pointer (some ⟨g2872, 0, none⟩)), (3, .bool (false))] (by kernel_rfl) ?_
    refine EL.done (by kernel_rfl) ?_
    refine EQ.code ?_
    refine EW.ret (by kernel_rfl) ?_
    refine EQ.ret ?_
    have hS := St.nilR hS (Kd.int .i32)
    simp only [Option.some.injEq, Prod.mk.injEq] at H
    obtain ⟨rfl, rfl, rfl, rfl⟩ := H
    exact EQ.leave2 hS (.cell 2 37) (.tmp 3) (.agg #[.int .i32 0, .int .i64 0, .int .i64 0, .slice none ([] : List Int).length 0, .int .i32 0, .int .i32 0, .int .i32 0, .int .i32 0, .int .i64 0, .int .i64 0, .int .u32 0, .int .i64 0]) (.bool (false)) (by kernel_rfl) ⟨0, 37, g2872, [.int .i32 0, .int .i64 0, .int .i64 0, .slice none ([] : List Int).length 0, .int .i32 0, .int .i32 0, .int .i32 0, .int .i32 0, .int .i64 0, .int .i64 0, .int .u32 0, .int .i64 0], 0, 12, rfl, (by kernel_rfl), (by kernel_rfl)⟩ (oneTmp (by kernel_rfl)) ⟨_, rfl, A2839, C2840, none, 0, rfl, (hS.re [1] [1] rfl (sub_cons 1 rfl (sub_cons 0 rfl (sub_tail (sub_self)))))⟩
  · rw [if_neg h2874] at H
    refine EW.skip (by kernel_rfl) ?_
    refine EQ.code ?_
    refine EW.seq (x := Cd22.r.r.r.l) (y := Cd22.r.r.r.r) (by kernel_rfl) ?_
    refine EW.region (id := 4) (ops := Cd22.r.r.r.l.ops) (by kernel_rfl) ?_
    refine EL.quick 3 [0, 2, 4, 17] [(0, .pointer (some ⟨g2836, 0, none⟩)), (2, .pointer (some ⟨g2872, 0, none⟩)), (4, .int .i64 (IntKind.i64.wrap ((l2838.length : Int) - 1))), (17, .pointer (some ⟨g2836, 1, none⟩))] (by kernel_rfl) ?_
    refine EL.of (EO.Y (YO.loadBox hS 1 rfl 30 1 1 (.slice A2839 l2838.length C2840) 18 (by kernel_rfl) (by kernel_rfl) (by kernel_rfl) (by kernel_rfl)) ?_)
    refine EL.quick 1 [0, 2, 4, 18, 19] [(0, .pointer (some ⟨g2836, 0, none⟩)), (2, .pointer (some ⟨g2872, 0, none⟩)), (4, .int .i64 (IntKind.i64.wrap ((l2838.length : Int) - 1))), (18, .slice A2839 l2838.length C2840), (19, .int .i64 (IntKind.i64.wrap ((l2838.length : Int) - 1)))] (by kernel_rfl) ?_
    obtain ⟨h2880, H⟩ := ite_in H
    obtain ⟨h2881, H⟩ := ite_in H
    obtain ⟨ad2882, rfl⟩ := St.rd_some hS (Rd.ro 0 rfl) h2880 h2881
    refine EL.of (EO.Y (YO.idx 30 12 ad2882 l2838.length C2840 .i64 (IntKind.i64.wrap ((l2838.length : Int) - 1)) 20 (by kernel_rfl) (by kernel_rfl) (by kernel_rfl) (by kernel_rfl) h2880 h2881) ?_)
    refine EL.of (EO.loadPt hS kS37 ad2882 C2840 l2838 (Rd.ro 0 rfl) zS37 cellsS37 factsS37 partsS37 (IntKind.i64.wrap ((l2838.length : Int) - 1)) h2880 h2881 37 12 0 12 rfl (fun b2883 => .agg #[.int .i32 ((l2838.getD (IntKind.i64.wrap ((l2838.length : Int) - 1)).toNat zS37).f0), .int .i64 ((l2838.getD (IntKind.i64.wrap ((l2838.length : Int) - 1)).toNat zS37).f1), .int .i64 ((l2838.getD (IntKind.i64.wrap ((l2838.length : Int) - 1)).toNat zS37).f2), .slice b2883.1 ((l2838.getD (IntKind.i64.wrap ((l2838.length : Int) - 1)).toNat zS37).f3).length b2883.2, .int .i32 ((l2838.getD (IntKind.i64.wrap ((l2838.length : Int) - 1)).toNat zS37).f4.f0), .int .i32 ((l2838.getD (IntKind.i64.wrap ((l2838.length : Int) - 1)).toNat zS37).f4.f1), .int .i32 ((l2838.getD (IntKind.i64.wrap ((l2838.length : Int) - 1)).toNat zS37).f4.f2), .int .i32 ((l2838.getD (IntKind.i64.wrap ((l2838.length : Int) - 1)).toNat zS37).f4.f3), .int .i64 ((l2838.getD (IntKind.i64.wrap ((l2838.length : Int) - 1)).toNat zS37).f5), .int .i64 ((l2838.getD (IntKind.i64.wrap ((l2838.length : Int) - 1)).toNat zS37).f6), .int .u32 ((l2838.getD (IntKind.i64.wrap ((l2838.length : Int) - 1)).toNat zS37).f7), .int .i64 ((l2838.getD (IntKind.i64.wrap ((l2838.length : Int) - 1)).toNat zS37).f8)]) 21 (by kernel_rfl) (by kernel_rfl) (by kernel_rfl) (fun b2883 => (by kernel_rfl)) ?_)
    intro b2883 hS
    refine EL.of (EO.alloc hS 37 (.agg #[.int .i32 0, .int .i64 0, .int .i64 0, .slice none ([] : List Int).length 0, .int .i32 0, .int .i32 0, .int .i32 0, .int .i32 0, .int .i64 0, .int .i64 0, .int .u32 0, .int .i64 0]) [.int .i32 0, .int .i64 0, .int .i64 0, .slice none ([] : List Int).length 0, .int .i32 0, .int .i32 0, .int .i32 0, .int .i32 0, .int .i64 0, .int .i64 0, .int .u32 0, .int .i64 0] 5 (by kernel_rfl) (by kernel_rfl) (by kernel_rfl) (by kernel_rfl) (by first | rfl | kernel_rfl) ?_)
    intro g2884 w hS
    refine EL.of (EO.storeBox (os' := Ass.box 37 g2884 [.int .i32 ((l2838.getD (IntKind.i64.wrap ((l2838.length : Int) - 1)).toNat zS37).f0), .int .i64 ((l2838.getD (IntKind.i64.wrap ((l2838.length : Int) - 1)).toNat zS37).f1), .int .i64 ((l2838.getD (IntKind.i64.wrap ((l2838.length : Int) - 1)).toNat zS37).f2), .slice b2883.1 ((l2838.getD (IntKind.i64.wrap ((l2838.length : Int) - 1)).toNat zS37).f3).length b2883.2, .int .i32 ((l2838.getD (IntKind.i64.wrap ((l2838.length : Int) - 1)).toNat zS37).f4.f0), .int .i32 ((l2838.getD (IntKind.i64.wrap ((l2838.length : Int) - 1)).toNat zS37).f4.f1), .int .i32 ((l2838.getD (IntKind.i64.wrap ((l2838.length : Int) - 1)).toNat zS37).f4.f2), .int .i32 ((l2838.getD (IntKind.i64.wrap ((l2838.length : Int) - 1)).toNat zS37).f4.f3), .int .i64 ((l2838.getD (IntKind.i64.wrap ((l2838.length : Int) - 1)).toNat zS37).f5), .int .i64 ((l2838.getD (IntKind.i64.wrap ((l2838.length : Int) - 1)).toNat zS37).f6), .int .u32 ((l2838.getD (IntKind.i64.wrap ((l2838.length : Int) - 1)).toNat zS37).f7), .int .i64 ((l2838.getD (IntKind.i64.wrap ((l2838.length : Int) - 1)).toNat zS37).f8)] :: Ass.box 37 g2872 [.int .i32 0, .int .i64 0, .int .i64 0, .slice none ([] : List Int).length 0, .int .i32 0, .int .i32 0, .int .i32 0, .int .i32 0, .int .i64 0, .int .i64 0, .int .u32 0, .int .i64 0] :: Ass.box 32 g2836 [.int .i64 a2837, .slice (some ad2882) l2838.length C2840] :: os) hS 0 rfl 37 0 (.agg #[.int .i32 ((l2838.getD (IntKind.i64.wrap ((l2838.length : Int) - 1)).toNat zS37).f0), .int .i64 ((l2838.getD (IntKind.i64.wrap ((l2838.length : Int) - 1)).toNat zS37).f1), .int .i64 ((l2838.getD (IntKind.i64.wrap ((l2838.length : Int) - 1)).toNat zS37).f2), .slice b2883.1 ((l2838.getD (IntKind.i64.wrap ((l2838.length : Int) - 1)).toNat zS37).f3).length b2883.2, .int .i32 ((l2838.getD (IntKind.i64.wrap ((l2838.length : Int) - 1)).toNat zS37).f4.f0), .int .i32 ((l2838.getD (IntKind.i64.wrap ((l2838.length : Int) - 1)).toNat zS37).f4.f1), .int .i32 ((l2838.getD (IntKind.i64.wrap ((l2838.length : Int) - 1)).toNat zS37).f4.f2), .int .i32 ((l2838.getD (IntKind.i64.wrap ((l2838.length : Int) - 1)).toNat zS37).f4.f3), .int .i64 ((l2838.getD (IntKind.i64.wrap ((l2838.length : Int) - 1)).toNat zS37).f5), .int .i64 ((l2838.getD (IntKind.i64.wrap ((l2838.length : Int) - 1)).toNat zS37).f6), .int .u32 ((l2838.getD (IntKind.i64.wrap ((l2838.length : Int) - 1)).toNat zS37).f7), .int .i64 ((l2838.getD (IntKind.i64.wrap ((l2838.length : Int) - 1)).toNat zS37).f8)]) [.int .i32 ((l2838.getD (IntKind.i64.wrap ((l2838.length : Int) - 1)).toNat zS37).f0), .int .i64 ((l2838.getD (IntKind.i64.wrap ((l2838.length : Int) - 1)).toNat zS37).f1), .int .i64 ((l2838.getD (IntKind.i64.wrap ((l2838.length : Int) - 1)).toNat zS37).f2), .slice b2883.1 ((l2838.getD (IntKind.i64.wrap ((l2838.length : Int) - 1)).toNat zS37).f3).length b2883.2, .int .i32 ((l2838.getD (IntKind.i64.wrap ((l2838.length : Int) - 1)).toNat zS37).f4.f0), .int .i32 ((l2838.getD (IntKind.i64.wrap ((l2838.length : Int) - 1)).toNat zS37).f4.f1), .int .i32 ((l2838.getD (IntKind.i64.wrap ((l2838.length : Int) - 1)).toNat zS37).f4.f2), .int .i32 ((l2838.getD (IntKind.i64.wrap ((l2838.length : Int) - 1)).toNat zS37).f4.f3), .int .i64 ((l2838.getD (IntKind.i64.wrap ((l2838.length : Int) - 1)).toNat zS37).f5), .int .i64 ((l2838.getD (IntKind.i64.wrap ((l2838.length : Int) - 1)).toNat zS37).f6), .int .u32 ((l2838.getD (IntKind.i64.wrap ((l2838.length : Int) - 1)).toNat zS37).f7), .int .i64 ((l2838.getD (IntKind.i64.wrap ((l2838.length : Int) - 1)).toNat zS37).f8)] (by kernel_rfl) (by kernel_rfl) (by kernel_rfl) (by kernel_rfl) (by kernel_rfl) (by kernel_rfl) rfl rfl ?_)
    intro w hS
    refine EL.done (by kernel_rfl) ?_
    refine EQ.code ?_
    refine EW.seq (x := Cd22.r.r.r.r.l) (y := Cd22.r.r.r.r.r) (by kernel_rfl) ?_
    refine EW.region (id := 5) (ops := Cd22.r.r.r.r.l.ops) (by kernel_rfl) ?_
    refine EL.quick 4 [2, 4, 5, 22, 25] [(2, .pointer (some ⟨g2872, 0, none⟩)), (4, .int .i64 (IntKind.i64.wrap ((l2838.length : Int) - 1))), (5, .pointer (some ⟨g2884, 0, none⟩)), (22, .pointer (some ⟨g2836, 0, none⟩)), (25, .pointer (some ⟨g2836, 1, none⟩))] (by kernel_rfl) ?_
    refine EL.of (EO.Y (YO.loadBox hS 2 rfl 30 1 1 (.slice (some ad2882) l2838.length C2840) 26 (by kernel_rfl) (by kernel_rfl) (by kernel_rfl) (by kernel_rfl)) ?_)
    refine EL.quick 1 [2, 5, 22, 26, 27] [(2, .pointer (some ⟨g2872, 0, none⟩)), (5, .pointer (some ⟨g2884, 0, none⟩)), (22, .pointer (some ⟨g2836, 0, none⟩)), (26, .slice (some ad2882) l2838.length C2840), (27, .int .i64 (IntKind.i64.wrap ((l2838.length : Int) - 1)))] (by kernel_rfl) ?_
    obtain ⟨h2889, H⟩ := ite_in H
    obtain ⟨l2890, hl2890, H⟩ := lt_out H
    refine EL.of (EO.sliceRo hS kS37 (some ad2882) C2840 l2838 1 rfl none (some (.int .i64 (IntKind.i64.wrap ((l2838.length : Int) - 1)))) none 0 ((IntKind.i64.wrap ((l2838.length : Int) - 1)).toNat) C2840 l2890 (by rw [hl2890]; exact (slice_hi _ _)) 30 28 (by kernel_rfl) (by kernel_rfl) (by kernel_rfl) (by kernel_rfl) (rfl) ((Int.toNat_of_nonneg (by omega)).symm) ⟨rfl, fun h => by first | rfl | cases h⟩ (by omega) (by omega) (.inl rfl) ?_)
    intro A2891 C2892 hS
    refine EL.quick 2 [2, 5, 28, 30] [(2, .pointer (some ⟨g2872, 0, none⟩)), (5, .pointer (some ⟨g2884, 0, none⟩)), (28, .slice A2891 l2890.length C2892), (30, .pointer (some ⟨g2836, 1, none⟩))] (by kernel_rfl) ?_
    refine EL.of (EO.storeBox (os' := Ass.box 37 g2884 [.int .i32 ((l2838.getD (IntKind.i64.wrap ((l2838.length : Int) - 1)).toNat zS37).f0), .int .i64 ((l2838.getD (IntKind.i64.wrap ((l2838.length : Int) - 1)).toNat zS37).f1), .int .i64 ((l2838.getD (IntKind.i64.wrap ((l2838.length : Int) - 1)).toNat zS37).f2), .slice b2883.1 ((l2838.getD (IntKind.i64.wrap ((l2838.length : Int) - 1)).toNat zS37).f3).length b2883.2, .int .i32 ((l2838.getD (IntKind.i64.wrap ((l2838.length : Int) - 1)).toNat zS37).f4.f0), .int .i32 ((l2838.getD (IntKind.i64.wrap ((l2838.length : Int) - 1)).toNat zS37).f4.f1), .int .i32 ((l2838.getD (IntKind.i64.wrap ((l2838.length : Int) - 1)).toNat zS37).f4.f2), .int .i32 ((l2838.getD (IntKind.i64.wrap ((l2838.length : Int) - 1)).toNat zS37).f4.f3), .int .i64 ((l2838.getD (IntKind.i64.wrap ((l2838.length : Int) - 1)).toNat zS37).f5), .int .i64 ((l2838.getD (IntKind.i64.wrap ((l2838.length : Int) - 1)).toNat zS37).f6), .int .u32 ((l2838.getD (IntKind.i64.wrap ((l2838.length : Int) - 1)).toNat zS37).f7), .int .i64 ((l2838.getD (IntKind.i64.wrap ((l2838.length : Int) - 1)).toNat zS37).f8)] :: Ass.box 37 g2872 [.int .i32 0, .int .i64 0, .int .i64 0, .slice none ([] : List Int).length 0, .int .i32 0, .int .i32 0, .int .i32 0, .int .i32 0, .int .i64 0, .int .i64 0, .int .u32 0, .int .i64 0] :: Ass.box 32 g2836 [.int .i64 a2837, .slice A2891 l2890.length C2892] :: os) hS 2 rfl 30 1 (.slice A2891 l2890.length C2892) [.int .i64 a2837, .slice A2891 l2890.length C2892] (by kernel_rfl) (by kernel_rfl) (by kernel_rfl) (by kernel_rfl) (by kernel_rfl) (by kernel_rfl) rfl rfl ?_)
    intro w hS
    refine EL.done (by kernel_rfl) ?_
    refine EQ.code ?_
    refine EW.seq (x := Cd22.r.r.r.r.r.l) (y := Cd22.r.r.r.r.r.r) (by kernel_rfl) ?_
    refine EW.region (id := 6) (ops := Cd22.r.r.r.r.r.l.ops) (by kernel_rfl) ?_
    refine EL.of (EO.Y (YO.loadBox hS 0 rfl 37 0 12 (.agg #[.int .i32 ((l2838.getD (IntKind.i64.wrap ((l2838.length : Int) - 1)).toNat zS37).f0), .int .i64 ((l2838.getD (IntKind.i64.wrap ((l2838.length : Int) - 1)).toNat zS37).f1), .int .i64 ((l2838.getD (IntKind.i64.wrap ((l2838.length : Int) - 1)).toNat zS37).f2), .slice b2883.1 ((l2838.getD (IntKind.i64.wrap ((l2838.length : Int) - 1)).toNat zS37).f3).length b2883.2, .int .i32 ((l2838.getD (IntKind.i64.wrap ((l2838.length : Int) - 1)).toNat zS37).f4.f0), .int .i32 ((l2838.getD (IntKind.i64.wrap ((l2838.length : Int) - 1)).toNat zS37).f4.f1), .int .i32 ((l2838.getD (IntKind.i64.wrap ((l2838.length : Int) - 1)).toNat zS37).f4.f2), .int .i32 ((l2838.getD (IntKind.i64.wrap ((l2838.length : Int) - 1)).toNat zS37).f4.f3), .int .i64 ((l2838.getD (IntKind.i64.wrap ((l2838.length : Int) - 1)).toNat zS37).f5), .int .i64 ((l2838.getD (IntKind.i64.wrap ((l2838.length : Int) - 1)).toNat zS37).f6), .int .u32 ((l2838.getD (IntKind.i64.wrap ((l2838.length : Int) - 1)).toNat zS37).f7), .int .i64 ((l2838.getD (IntKind.i64.wrap ((l2838.length : Int) - 1)).toNat zS37).f8)]) 31 (by kernel_rfl) (by kernel_rfl) (by kernel_rfl) (by kernel_rfl)) ?_)
    refine EL.of (EO.storeBox (os' := Ass.box 37 g2884 [.int .i32 ((l2838.getD (IntKind.i64.wrap ((l2838.length : Int) - 1)).toNat zS37).f0), .int .i64 ((l2838.getD (IntKind.i64.wrap ((l2838.length : Int) - 1)).toNat zS37).f1), .int .i64 ((l2838.getD (IntKind.i64.wrap ((l2838.length : Int) - 1)).toNat zS37).f2), .slice b2883.1 ((l2838.getD (IntKind.i64.wrap ((l2838.length : Int) - 1)).toNat zS37).f3).length b2883.2, .int .i32 ((l2838.getD (IntKind.i64.wrap ((l2838.length : Int) - 1)).toNat zS37).f4.f0), .int .i32 ((l2838.getD (IntKind.i64.wrap ((l2838.length : Int) - 1)).toNat zS37).f4.f1), .int .i32 ((l2838.getD (IntKind.i64.wrap ((l2838.length : Int) - 1)).toNat zS37).f4.f2), .int .i32 ((l2838.getD (IntKind.i64.wrap ((l2838.length : Int) - 1)).toNat zS37).f4.f3), .int .i64 ((l2838.getD (IntKind.i64.wrap ((l2838.length : Int) - 1)).toNat zS37).f5), .int .i64 ((l2838.getD (IntKind.i64.wrap ((l2838.length : Int) - 1)).toNat zS37).f6), .int .u32 ((l2838.getD (IntKind.i64.wrap ((l2838.length : Int) - 1)).toNat zS37).f7), .int .i64 ((l2838.getD (IntKind.i64.wrap ((l2838.length : Int) - 1)).toNat zS37).f8)] :: Ass.box 37 g2872 [.int .i32 ((l2838.getD (IntKind.i64.wrap ((l2838.length : Int) - 1)).toNat zS37).f0), .int .i64 ((l2838.getD (IntKind.i64.wrap ((l2838.length : Int) - 1)).toNat zS37).f1), .int .i64 ((l2838.getD (IntKind.i64.wrap ((l2838.length : Int) - 1)).toNat zS37).f2), .slice b2883.1 ((l2838.getD (IntKind.i64.wrap ((l2838.length : Int) - 1)).toNat zS37).f3).length b2883.2, .int .i32 ((l2838.getD (IntKind.i64.wrap ((l2838.length : Int) - 1)).toNat zS37).f4.f0), .int .i32 ((l2838.getD (IntKind.i64.wrap ((l2838.length : Int) - 1)).toNat zS37).f4.f1), .int .i32 ((l2838.getD (IntKind.i64.wrap ((l2838.length : Int) - 1)).toNat zS37).f4.f2), .int .i32 ((l2838.getD (IntKind.i64.wrap ((l2838.length : Int) - 1)).toNat zS37).f4.f3), .int .i64 ((l2838.getD (IntKind.i64.wrap ((l2838.length : Int) - 1)).toNat zS37).f5), .int .i64 ((l2838.getD (IntKind.i64.wrap ((l2838.length : Int) - 1)).toNat zS37).f6), .int .u32 ((l2838.getD (IntKind.i64.wrap ((l2838.length : Int) - 1)).toNat zS37).f7), .int .i64 ((l2838.getD (IntKind.i64.wrap ((l2838.length : Int) - 1)).toNat zS37).f8)] :: Ass.box 32 g2836 [.int .i64 a2837, .slice A2891 l2890.length C2892] :: os) hS 1 rfl 37 0 (.agg #[.int .i32 ((l2838.getD (IntKind.i64.wrap ((l2838.length : Int) - 1)).toNat zS37).f0), .int .i64 ((l2838.getD (IntKind.i64.wrap ((l2838.length : Int) - 1)).toNat zS37).f1), .int .i64 ((l2838.getD (IntKind.i64.wrap ((l2838.length : Int) - 1)).toNat zS37).f2), .slice b2883.1 ((l2838.getD (IntKind.i64.wrap ((l2838.length : Int) - 1)).toNat zS37).f3).length b2883.2, .int .i32 ((l2838.getD (IntKind.i64.wrap ((l2838.length : Int) - 1)).toNat zS37).f4.f0), .int .i32 ((l2838.getD (IntKind.i64.wrap ((l2838.length : Int) - 1)).toNat zS37).f4.f1), .int .i32 ((l2838.getD (IntKind.i64.wrap ((l2838.length : Int) - 1)).toNat zS37).f4.f2), .int .i32 ((l2838.getD (IntKind.i64.wrap ((l2838.length : Int) - 1)).toNat zS37).f4.f3), .int .i64 ((l2838.getD (IntKind.i64.wrap ((l2838.length : Int) - 1)).toNat zS37).f5), .int .i64 ((l2838.getD (IntKind.i64.wrap ((l2838.length : Int) - 1)).toNat zS37).f6), .int .u32 ((l2838.getD (IntKind.i64.wrap ((l2838.length : Int) - 1)).toNat zS37).f7), .int .i64 ((l2838.getD (IntKind.i64.wrap ((l2838.length : Int) - 1)).toNat zS37).f8)]) [.int .i32 ((l2838.getD (IntKind.i64.wrap ((l2838.length : Int) - 1)).toNat zS37).f0), .int .i64 ((l2838.getD (IntKind.i64.wrap ((l2838.length : Int) - 1)).toNat zS37).f1), .int .i64 ((l2838.getD (IntKind.i64.wrap ((l2838.length : Int) - 1)).toNat zS37).f2), .slice b2883.1 ((l2838.getD (IntKind.i64.wrap ((l2838.length : Int) - 1)).toNat zS37).f3).length b2883.2, .int .i32 ((l2838.getD (IntKind.i64.wrap ((l2838.length : Int) - 1)).toNat zS37).f4.f0), .int .i32 ((l2838.getD (IntKind.i64.wrap ((l2838.length : Int) - 1)).toNat zS37).f4.f1), .int .i32 ((l2838.getD (IntKind.i64.wrap ((l2838.length : Int) - 1)).toNat zS37).f4.f2), .int .i32 ((l2838.getD (IntKind.i64.wrap ((l2838.length : Int) - 1)).toNat zS37).f4.f3), .int .i64 ((l2838.getD (IntKind.i64.wrap ((l2838.length : Int) - 1)).toNat zS37).f5), .int .i64 ((l2838.getD (IntKind.i64.wrap ((l2838.length : Int) - 1)).toNat zS37).f6), .int .u32 ((l2838.getD (IntKind.i64.wrap ((l2838.length : Int) - 1)).toNat zS37).f7), .int .i64 ((l2838.getD (IntKind.i64.wrap ((l2838.length : Int) - 1)).toNat zS37).f8)] (by kernel_rfl) (by kernel_rfl) (by kernel_rfl) (by kernel_rfl) (by kernel_rfl) (by kernel_rfl) rfl rfl ?_)
    intro w hS
    refine EL.quick 1 [2, 3] [(2, .pointer (some ⟨g2872, 0, none⟩)), (3, .bool (true))] (by kernel_rfl) ?_
    refine EL.done (by kernel_rfl) ?_
    refine EQ.code ?_
    refine EW.ret (by kernel_rfl) ?_
    simp only [Option.some.injEq, Prod.mk.injEq] at H
    obtain ⟨rfl, rfl, rfl, rfl⟩ := H
    exact EQ.leave2 hS (.cell 2 37) (.tmp 3) (.agg #[.int .i32 ((l2838.getD (IntKind.i64.wrap ((l2838.length : Int) - 1)).toNat zS37).f0), .int .i64 ((l2838.getD (IntKind.i64.wrap ((l2838.length : Int) - 1)).toNat zS37).f1), .int .i64 ((l2838.getD (IntKind.i64.wrap ((l2838.length : Int) - 1)).toNat zS37).f2), .slice b2883.1 ((l2838.getD (IntKind.i64.wrap ((l2838.length : Int) - 1)).toNat zS37).f3).length b2883.2, .int .i32 ((l2838.getD (IntKind.i64.wrap ((l2838.length : Int) - 1)).toNat zS37).f4.f0), .int .i32 ((l2838.getD (IntKind.i64.wrap ((l2838.length : Int) - 1)).toNat zS37).f4.f1), .int .i32 ((l2838.getD (IntKind.i64.wrap ((l2838.length : Int) - 1)).toNat zS37).f4.f2), .int .i32 ((l2838.getD (IntKind.i64.wrap ((l2838.length : Int) - 1)).toNat zS37).f4.f3), .int .i64 ((l2838.getD (IntKind.i64.wrap ((l2838.length : Int) - 1)).toNat zS37).f5), .int .i64 ((l2838.getD (IntKind.i64.wrap ((l2838.length : Int) - 1)).toNat zS37).f6), .int .u32 ((l2838.getD (IntKind.i64.wrap ((l2838.length : Int) - 1)).toNat zS37).f7), .int .i64 ((l2838.getD (IntKind.i64.wrap ((l2838.length : Int) - 1)).toNat zS37).f8)]) (.bool (true)) (by kernel_rfl) ⟨1, 37, g2872, [.int .i32 ((l2838.getD (IntKind.i64.wrap ((l2838.length : Int) - 1)).toNat zS37).f0), .int .i64 ((l2838.getD (IntKind.i64.wrap ((l2838.length : Int) - 1)).toNat zS37).f1), .int .i64 ((l2838.getD (IntKind.i64.wrap ((l2838.length : Int) - 1)).toNat zS37).f2), .slice b2883.1 ((l2838.getD (IntKind.i64.wrap ((l2838.length : Int) - 1)).toNat zS37).f3).length b2883.2, .int .i32 ((l2838.getD (IntKind.i64.wrap ((l2838.length : Int) - 1)).toNat zS37).f4.f0), .int .i32 ((l2838.getD (IntKind.i64.wrap ((l2838.length : Int) - 1)).toNat zS37).f4.f1), .int .i32 ((l2838.getD (IntKind.i64.wrap ((l2838.length : Int) - 1)).toNat zS37).f4.f2), .int .i32 ((l2838.getD (IntKind.i64.wrap ((l2838.length : Int) - 1)).toNat zS37).f4.f3), .int .i64 ((l2838.getD (IntKind.i64.wrap ((l2838.length : Int) - 1)).toNat zS37).f5), .int .i64 ((l2838.getD (IntKind.i64.wrap ((l2838.length : Int) - 1)).toNat zS37).f6), .int .u32 ((l2838.getD (IntKind.i64.wrap ((l2838.length : Int) - 1)).toNat zS37).f7), .int .i64 ((l2838.getD (IntKind.i64.wrap ((l2838.length : Int) - 1)).toNat zS37).f8)], 0, 12, rfl, (by kernel_rfl), (by kernel_rfl)⟩ (oneTmp (by kernel_rfl)) ⟨_, rfl, A2891, C2892, b2883.1, b2883.2, rfl, (hS.re [2] [1, 1] rfl (sub_cons 0 rfl (sub_cons 1 rfl (sub_tail (sub_tail (sub_self))))))⟩

/-! ### confidant/confidantref9.SameInts: function 60 -/
def confidantref9_SameInts.l0 (K : Nat) (l2949 : List Int) (l2952 : List Int) : Nat → Int → Option Bool
  | 0, _ => none
  | n + 1, x3039 => if x3039 < (l2949.length : Int) then (if 0 ≤ x3039 then (if x3039 < (l2952.length : Int) then (if (l2949.getD x3039.toNat 0) = (l2952.getD x3039.toNat 0) then (confidantref9_SameInts.l0 K l2949 l2952 n (IntKind.i64.wrap (x3039 + 1))) else (some false)) else none) else none) else (some true)
def confidantref9_SameInts.f (K : Nat) (l2949 : List Int) (l2952 : List Int) : Option Bool := if (l2949.length : Int) = (l2952.length : Int) then (confidantref9_SameInts.l0 K l2949 l2952 K 0) else (some false)
set_option maxRecDepth 100000 in
theorem confidantref9_SameInts.calls {K : Nat} {l2949 : List Int} {l2952 : List Int} {A2950 : Option Addr} {C2951 : Nat} {A2953 : Option Addr} {C2954 : Nat} {x3018 : Bool} {B w : World} {os : List Ass} {rs : List Ro} (H : confidantref9_SameInts.f K l2949 l2952 = some x3018) (hS : St B w (os) (Ro.sl (Kd.int .i32) A2950 C2951 l2949 :: Ro.sl (Kd.int .i32) A2953 C2954 l2952 :: rs)) :
    Calls Try.prog 60 [.slice A2950 l2949.length C2951, .slice A2953 l2952.length C2954].toArray w (fun en w' => ∃ v, en = .returned v ∧ v = .bool (x3018) ∧ St B w' (os) (Ro.sl (Kd.int .i32) A2950 C2951 l2949 :: Ro.sl (Kd.int .i32) A2953 C2954 l2952 :: rs)) := by
  unfold confidantref9_SameInts.f at H
  refine calls_of_EW (args := [.slice A2950 l2949.length C2951, .slice A2953 l2952.length C2954]) (c := Cd60) 26 Try.func60 (by kernel_rfl) (by kernel_rfl) (by kernel_rfl) ?_
  refine EW.seq (x := Cd60.l) (y := Cd60.r) (by kernel_rfl) ?_
  refine EW.region (id := 0) (ops := Cd60.l.ops) (by kernel_rfl) ?_
  refine EL.quick 1 [0, 1] [(0, .slice A2950 l2949.length C2951), (1, .slice A2953 l2952.length C2954)] (by kernel_rfl) ?_
  refine EL.done (by kernel_rfl) ?_
  refine EQ.code ?_
  refine EW.seq (x := Cd60.r.l) (y := Cd60.r.r) (by kernel_rfl) ?_
  refine EW.seq (x := Cd60.r.l.l) (y := Cd60.r.l.r) (by kernel_rfl) ?_
  refine EW.region (id := 1) (ops := Cd60.r.l.l.ops) (by kernel_rfl) ?_
  refine EL.quick 5 [0, 1, 10] [(0, .slice A2950 l2949.length C2951), (1, .slice A2953 l2952.length C2954), (10, .bool (!(decide ((l2949.length : Int) = (l2952.length : Int)))))] (by kernel_rfl) ?_
  refine EL.done (by kernel_rfl) ?_
  refine EQ.code ?_
  refine EW.condQ (b := !(decide ((l2949.length : Int) = (l2952.length : Int)))) (o := (.tmp 10)) (x := Cd60.r.l.r.l) (y := Cd60.r.l.r.r) ((l2949.length : Int) = (l2952.length : Int)) (false) (by kernel_rfl) (by kernel_rfl) ⟨fun h => (by rw [decide_eq_true h] <;> rfl), fun h => (by rw [decide_eq_false h] <;> rfl)⟩ (fun h3020 => ?_) (fun h3020 => ?_)
  · rw [if_pos h3020] at H
    refine EW.skip (by kernel_rfl) ?_
    refine EQ.code ?_
    refine EW.seq (x := Cd60.r.r.l) (y := Cd60.r.r.r) (by kernel_rfl) ?_
    refine EW.seq (x := Cd60.r.r.l.l) (y := Cd60.r.r.l.r) (by kernel_rfl) ?_
    refine EW.region (id := 3) (ops := Cd60.r.r.l.l.ops) (by kernel_rfl) ?_
    refine EL.quick 1 [0, 1, 5] [(0, .slice A2950 l2949.length C2951), (1, .slice A2953 l2952.length C2954), (5, .int .i64 0)] (by kernel_rfl) ?_
    refine EL.done (by kernel_rfl) ?_
    refine EQ.code ?_
    refine EW.block (x := Cd60.r.r.l.r.l) (id := 0) (by kernel_rfl) ?_
    refine EW.loop (x := Cd60.r.r.l.r.l.l) (fun n a w => ∃ x3039 : Int, Sat 26 [(0, .slice A2950 l2949.length C2951), (1, .slice A2953 l2952.length C2954), (5, .int .i64 x3039)] a ∧ St B w (os) (Ro.sl (Kd.int .i32) A2950 C2951 l2949 :: Ro.sl (Kd.int .i32) A2953 C2954 l2952 :: rs) ∧ confidantref9_SameInts.l0 K l2949 l2952 n x3039 = some x3018) K (by kernel_rfl) ?_ (fun n a w hI => ?_)
    · refine EQ.keep [0, 1, 5] [(0, .slice A2950 l2949.length C2951), (1, .slice A2953 l2952.length C2954), (5, .int .i64 0)] (by kernel_rfl) ?_
      exact fun a ha => ⟨0, ha, (hS.re [] [] rfl (sub_cons 0 rfl (sub_cons 1 rfl (sub_tail (sub_tail (sub_self)))))), H⟩
    · obtain ⟨x3039, ha, hS, H⟩ := hI
      obtain _ | n := n
      · simp [confidantref9_SameInts.l0] at H
      rw [confidantref9_SameInts.l0.eq_2] at H
      refine EW.at ?_ a ha
      clear ha a
      refine EW.seq (x := Cd60.r.r.l.r.l.l.l) (y := Cd60.r.r.l.r.l.l.r) (by kernel_rfl) ?_
      refine EW.seq (x := Cd60.r.r.l.r.l.l.l.l) (y := Cd60.r.r.l.r.l.l.l.r) (by kernel_rfl) ?_
      refine EW.region (id := 4) (ops := Cd60.r.r.l.r.l.l.l.l.ops) (by kernel_rfl) ?_
      refine EL.quick 4 [0, 1, 5, 14] [(0, .slice A2950 l2949.length C2951), (1, .slice A2953 l2952.length C2954), (5, .int .i64 x3039), (14, .bool (decide (x3039 < (l2949.length : Int))))] (by kernel_rfl) ?_
      refine EL.done (by kernel_rfl) ?_
      refine EQ.code ?_
      refine EW.condP (o := (.tmp 14)) (x := Cd60.r.r.l.r.l.l.l.r.l) (y := Cd60.r.r.l.r.l.l.l.r.r) (x3039 < (l2949.length : Int)) (by kernel_rfl) (by kernel_rfl) (fun h3063 => ?_) (fun h3063 => ?_)
      · rw [if_pos h3063] at H
        refine EW.skip (by kernel_rfl) ?_
        refine EQ.code ?_
        refine EW.seq (x := Cd60.r.r.l.r.l.l.r.l) (y := Cd60.r.r.l.r.l.l.r.r) (by kernel_rfl) ?_
        refine EW.block (x := Cd60.r.r.l.r.l.l.r.l.l) (id := 1) (by kernel_rfl) ?_
        refine EW.seq (x := Cd60.r.r.l.r.l.l.r.l.l.l) (y := Cd60.r.r.l.r.l.l.r.l.l.r) (by kernel_rfl) ?_
        obtain ⟨h3077, H⟩ := ite_in H
        obtain ⟨ad3078, rfl⟩ := St.rd_some hS (Rd.ro 0 rfl) h3077 h3063
        obtain ⟨h3079, H⟩ := ite_in H
        obtain ⟨ad3080, rfl⟩ := St.rd_some hS (Rd.ro 1 rfl) h3077 h3079
        have hS := hS.drew
        refine EW.draw (B := B) (id := 6) (ops := Cd60.r.r.l.r.l.l.r.l.l.l.ops) [] [Ro.sl (Kd.int .i32) (some ad3078) C2951 l2949, Ro.sl (Kd.int .i32) (some ad3080) C2954 l2952] (by kernel_rfl) (by kernel_rfl) ?_
        have hN : Region.noSelect Cd60.r.r.l.r.l.l.r.l.l.l.ops = true := (by kernel_rfl)
        have hF : freeAll Cd60.r.r.l.r.l.l.r.l.l.l.ops = true := (by kernel_rfl)
        have hC : Core B [] [Ro.sl (Kd.int .i32) (some ad3078) C2951 l2949, Ro.sl (Kd.int .i32) (some ad3080) C2954 l2952] _ := ⟨_, _, hS⟩
        refine ED.quick hN hF hC [0, 1, 4, 5] [0, 1, 5, 17, 18, 21, 22] 5 [(0, .slice (some ad3078) l2949.length C2951), (1, .slice (some ad3080) l2952.length C2954), (5, .int .i64 x3039), (17, .slice (some ad3078) l2949.length C2951), (18, .int .i64 x3039), (21, .slice (some ad3080) l2952.length C2954), (22, .int .i64 x3039)] #[true, true, false, false, true, true, false, false, false] (by kernel_rfl) (by kernel_rfl) ?_
        refine ED.Y hN hF hC 2 4 #[true, true, true, false, true, true, false, false, false] (by kernel_rfl) (by kernel_rfl) rfl (fun _ _ _ hS => YO.idx 33 1 ad3078 l2949.length C2951 .i64 x3039 19 (by kernel_rfl) (by kernel_rfl) (by kernel_rfl) (by kernel_rfl) h3077 h3063) ?_
        refine ED.Y hN hF hC 3 3 #[true, true, true, true, true, true, false, false, false] (by kernel_rfl) (by kernel_rfl) rfl (fun _ _ _ hS => YO.loadEl hS (Kd.int .i32) ad3078 C2951 l2949 (Rd.ro 0 rfl) 0 (encI .i32) encI_of x3039 h3077 h3063 21 1 0 1 rfl (.int .i32 (l2949.getD x3039.toNat 0)) 20 (by kernel_rfl) (by kernel_rfl) (by kernel_rfl) (by kernel_rfl)) ?_
        refine ED.Y hN hF hC 6 2 #[true, true, true, true, true, true, true, false, false] (by kernel_rfl) (by kernel_rfl) rfl (fun _ _ _ hS => YO.idx 33 1 ad3080 l2952.length C2954 .i64 x3039 23 (by kernel_rfl) (by kernel_rfl) (by kernel_rfl) (by kernel_rfl) h3077 h3079) ?_
        refine ED.Y hN hF hC 7 1 #[true, true, true, true, true, true, true, true, false] (by kernel_rfl) (by kernel_rfl) rfl (fun _ _ _ hS => YO.loadEl hS (Kd.int .i32) ad3080 C2954 l2952 (Rd.ro 1 rfl) 0 (encI .i32) encI_of x3039 h3077 h3079 21 1 0 1 rfl (.int .i32 (l2952.getD x3039.toNat 0)) 24 (by kernel_rfl) (by kernel_rfl) (by kernel_rfl) (by kernel_rfl)) ?_
        refine ED.quick hN hF hC [8] [0, 1, 5, 25] 0 [(0, .slice (some ad3078) l2949.length C2951), (1, .slice (some ad3080) l2952.length C2954), (5, .int .i64 x3039), (25, .bool (!(decide ((l2949.getD x3039.toNat 0) = (l2952.getD x3039.toNat 0)))))] #[true, true, true, true, true, true, true, true, true] (by kernel_rfl) (by kernel_rfl) ?_
        refine ED.done (by kernel_rfl) ?_
        refine EQ.code ?_
        refine EW.condQ (b := !(decide ((l2949.getD x3039.toNat 0) = (l2952.getD x3039.toNat 0)))) (o := (.tmp 25)) (x := Cd60.r.r.l.r.l.l.r.l.l.r.l) (y := Cd60.r.r.l.r.l.l.r.l.l.r.r) ((l2949.getD x3039.toNat 0) = (l2952.getD x3039.toNat 0)) (false) (by kernel_rfl) (by kernel_rfl) ⟨fun h => (by rw [decide_eq_true h] <;> rfl), fun h => (by rw [decide_eq_false h] <;> rfl)⟩ (fun h3081 => ?_) (fun h3081 => ?_)
        · rw [if_pos h3081] at H
          refine EW.skip (by kernel_rfl) ?_
          refine EQ.pop ?_
          refine EQ.code ?_
          refine EW.region (id := 5) (ops := Cd60.r.r.l.r.l.l.r.r.ops) (by kernel_rfl) ?_
          refine EL.quick 3 [0, 1, 5] [(0, .slice (some ad3078) l2949.length C2951), (1, .slice (some ad3080) l2952.length C2954), (5, .int .i64 (IntKind.i64.wrap (x3039 + 1)))] (by kernel_rfl) ?_
          refine EL.done (by kernel_rfl) ?_
          refine EQ.to ?_
          refine EQ.keep [0, 1, 5] [(0, .slice (some ad3078) l2949.length C2951), (1, .slice (some ad3080) l2952.length C2954), (5, .int .i64 (IntKind.i64.wrap (x3039 + 1)))] (by kernel_rfl) ?_
          exact fun a ha => ⟨n, Nat.lt_succ_self n, IntKind.i64.wrap (x3039 + 1), ha, (hS.re [] [] rfl (sub_cons 0 rfl (sub_cons 1 rfl (sub_tail (sub_tail (sub_self)))))), H⟩
        · rw [if_neg h3081] at H
          refine EW.seq (x := Cd60.r.r.l.r.l.l.r.l.l.r.l.l) (y := Cd60.r.r.l.r.l.l.r.l.l.r.l.r) (by kernel_rfl) ?_
          refine EW.region (id := 7) (ops := Cd60.r.r.l.r.l.l.r.l.l.r.l.l.ops) (by kernel_rfl) ?_
          refine EL.quick 1 [4] [(4, .bool (false))] (by kernel_rfl) ?_
          refine EL.done (by kernel_rfl) ?_
          refine EQ.code ?_
          refine EW.ret (by kernel_rfl) ?_
          refine EQ.ret ?_
          refine EQ.ret ?_
          refine EQ.ret ?_
          refine EQ.ret ?_
          refine EQ.ret ?_
          obtain rfl := Option.some.inj H
          exact EQ.leave (.bool (false)) (by kernel_rfl) ⟨_, rfl, rfl, (hS.re [] [] rfl (sub_self))⟩
      · rw [if_neg h3063] at H
        refine EW.exit (id := 0) (by kernel_rfl) ?_
        refine EQ.exitCode ?_
        refine EQ.exitTo ?_
        refine EQ.exitHere ?_
        refine EQ.code ?_
        refine EW.seq (x := Cd60.r.r.r.l) (y := Cd60.r.r.r.r) (by kernel_rfl) ?_
        refine EW.region (id := 8) (ops := Cd60.r.r.r.l.ops) (by kernel_rfl) ?_
        refine EL.quick 1 [4] [(4, .bool (true))] (by kernel_rfl) ?_
        refine EL.done (by kernel_rfl) ?_
        refine EQ.code ?_
        refine EW.ret (by kernel_rfl) ?_
        obtain rfl := Option.some.inj H
        exact EQ.leave (.bool (true)) (by kernel_rfl) ⟨_, rfl, rfl, (hS.re [] [] rfl (sub_self))⟩
  · rw [if_neg h3020] at H
    refine EW.seq (x := Cd60.r.l.r.l.l) (y := Cd60.r.l.r.l.r) (by kernel_rfl) ?_
    refine EW.region (id := 2) (ops := Cd60.r.l.r.l.l.ops) (by kernel_rfl) ?_
    refine EL.quick 1 [4] [(4, .bool (false))] (by kernel_rfl) ?_
    refine EL.done (by kernel_rfl) ?_
    refine EQ.code ?_
    refine EW.ret (by kernel_rfl) ?_
    refine EQ.ret ?_
    obtain rfl := Option.some.inj H
    exact EQ.leave (.bool (false)) (by kernel_rfl) ⟨_, rfl, rfl, (hS.re [] [] rfl (sub_self))⟩

/-! ### confidant/confidantref9.Same: function 23 -/
def confidantref9_Same.f (K : Nat) (a2914 : Int) (a2915 : Int) (a2916 : Int) (l2917 : List Int) (a2920 : Int) (a2921 : Int) (a2922 : Int) (a2923 : Int) (a2924 : Int) (a2925 : Int) (a2926 : Int) (a2927 : Int) (a2928 : Int) (a2929 : Int) (a2930 : Int) (l2931 : List Int) (a2934 : Int) (a2935 : Int) (a2936 : Int) (a2937 : Int) (a2938 : Int) (a2939 : Int) (a2940 : Int) (a2941 : Int) : Option Bool := if a2914 = a2928 then (if a2915 = a2929 then (if a2916 = a2930 then (b1 (confidantref9_SameInts.f K l2917 l2931) fun (t3097 : Bool) => (if t3097 = true then (if ((a2920 == a2934) && ((a2921 == a2935) && ((a2922 == a2936) && ((a2923 == a2937) && true)))) = true then (if a2924 = a2938 then (if a2925 = a2939 then (if a2926 = a2940 then (some (decide (a2927 = a2941))) else (some false)) else (some false)) else (some false)) else (some false)) else (some false))) else (some false)) else (some false)) else (some false)
set_option maxRecDepth 100000 in
theorem confidantref9_Same.calls {K : Nat} {a2914 : Int} {a2915 : Int} {a2916 : Int} {l2917 : List Int} {a2920 : Int} {a2921 : Int} {a2922 : Int} {a2923 : Int} {a2924 : Int} {a2925 : Int} {a2926 : Int} {a2927 : Int} {a2928 : Int} {a2929 : Int} {a2930 : Int} {l2931 : List Int} {a2934 : Int} {a2935 : Int} {a2936 : Int} {a2937 : Int} {a2938 : Int} {a2939 : Int} {a2940 : Int} {a2941 : Int} {A2918 : Option Addr} {C2919 : Nat} {A2932 : Option Addr} {C2933 : Nat} {x3089 : Bool} {B w : World} {os : List Ass} {rs : List Ro} (H : confidantref9_Same.f K a2914 a2915 a2916 l2917 a2920 a2921 a2922 a2923 a2924 a2925 a2926 a2927 a2928 a2929 a2930 l2931 a2934 a2935 a2936 a2937 a2938 a2939 a2940 a2941 = some x3089) (hS : St B w (os) (Ro.sl (Kd.int .i32) A2918 C2919 l2917 :: Ro.sl (Kd.int .i32) A2932 C2933 l2931 :: rs)) :
    Calls Try.prog 23 [.agg #[.int .i32 a2914, .int .i64 a2915, .int .i64 a2916, .slice A2918 l2917.length C2919, .int .i32 a2920, .int .i32 a2921, .int .i32 a2922, .int .i32 a2923, .int .i64 a2924, .int .i64 a2925, .int .u32 a2926, .int .i64 a2927], .agg #[.int .i32 a2928, .int .i64 a2929, .int .i64 a2930, .slice A2932 l2931.length C2933, .int .i32 a2934, .int .i32 a2935, .int .i32 a2936, .int .i32 a2937, .int .i64 a2938, .int .i64 a2939, .int .u32 a2940, .int .i64 a2941]].toArray w (fun en w' => ∃ v, en = .returned v ∧ v = .bool (x3089) ∧ St B w' (os) (Ro.sl (Kd.int .i32) A2918 C2919 l2917 :: Ro.sl (Kd.int .i32) A2932 C2933 l2931 :: rs)) := by
  unfold confidantref9_Same.f at H
  refine calls_of_EW (args := [.agg #[.int .i32 a2914, .int .i64 a2915, .int .i64 a2916, .slice A2918 l2917.length C2919, .int .i32 a2920, .int .i32 a2921, .int .i32 a2922, .int .i32 a2923, .int .i64 a2924, .int .i64 a2925, .int .u32 a2926, .int .i64 a2927], .agg #[.int .i32 a2928, .int .i64 a2929, .int .i64 a2930, .slice A2932 l2931.length C2933, .int .i32 a2934, .int .i32 a2935, .int .i32 a2936, .int .i32 a2937, .int .i64 a2938, .int .i64 a2939, .int .u32 a2940, .int .i64 a2941]]) (c := Cd23) 66 Try.func23 (by kernel_rfl) (by kernel_rfl) (by kernel_rfl) ?_
  refine EW.seq (x := Cd23.l) (y := Cd23.r) (by kernel_rfl) ?_
  refine EW.region (id := 0) (ops := Cd23.l.ops) (by kernel_rfl) ?_
  refine EL.of (EO.box hS 37 (.agg #[.int .i32 a2914, .int .i64 a2915, .int .i64 a2916, .slice A2918 l2917.length C2919, .int .i32 a2920, .int .i32 a2921, .int .i32 a2922, .int .i32 a2923, .int .i64 a2924, .int .i64 a2925, .int .u32 a2926, .int .i64 a2927]) [.int .i32 a2914, .int .i64 a2915, .int .i64 a2916, .slice A2918 l2917.length C2919, .int .i32 a2920, .int .i32 a2921, .int .i32 a2922, .int .i32 a2923, .int .i64 a2924, .int .i64 a2925, .int .u32 a2926, .int .i64 a2927] 2 (by kernel_rfl) (by kernel_rfl) (by kernel_rfl) (by first | rfl | kernel_rfl) ?_)
  intro g3092 w hS
  refine EL.of (EO.box hS 37 (.agg #[.int .i32 a2928, .int .i64 a2929, .int .i64 a2930, .slice A2932 l2931.length C2933, .int .i32 a2934, .int .i32 a2935, .int .i32 a2936, .int .i32 a2937, .int .i64 a2938, .int .i64 a2939, .int .u32 a2940, .int .i64 a2941]) [.int .i32 a2928, .int .i64 a2929, .int .i64 a2930, .slice A2932 l2931.length C2933, .int .i32 a2934, .int .i32 a2935, .int .i32 a2936, .int .i32 a2937, .int .i64 a2938, .int .i64 a2939, .int .u32 a2940, .int .i64 a2941] 3 (by kernel_rfl) (by kernel_rfl) (by kernel_rfl) (by first | rfl | kernel_rfl) ?_)
  intro g3093 w hS
  refine EL.quick 1 [2, 3] [(2, .pointer (some ⟨g3092, 0, none⟩)), (3, .pointer (some ⟨g3093, 0, none⟩))] (by kernel_rfl) ?_
  refine EL.done (by kernel_rfl) ?_
  refine EQ.code ?_
  refine EW.seq (x := Cd23.r.l) (y := Cd23.r.r) (by kernel_rfl) ?_
  refine EW.region (id := 1) (ops := Cd23.r.l.ops) (by kernel_rfl) ?_
  refine EL.quick 1 [2, 3, 5] [(2, .pointer (some ⟨g3092, 0, none⟩)), (3, .pointer (some ⟨g3093, 0, none⟩)), (5, .pointer (some ⟨g3092, 0, none⟩))] (by kernel_rfl) ?_
  refine EL.of (EO.Y (YO.loadBox hS 1 rfl 21 0 1 (.int .i32 a2914) 6 (by kernel_rfl) (by kernel_rfl) (by kernel_rfl) (by kernel_rfl)) ?_)
  refine EL.quick 1 [2, 3, 6, 7] [(2, .pointer (some ⟨g3092, 0, none⟩)), (3, .pointer (some ⟨g3093, 0, none⟩)), (6, .int .i32 a2914), (7, .pointer (some ⟨g3093, 0, none⟩))] (by kernel_rfl) ?_
  refine EL.of (EO.Y (YO.loadBox hS 0 rfl 21 0 1 (.int .i32 a2928) 8 (by kernel_rfl) (by kernel_rfl) (by kernel_rfl) (by kernel_rfl)) ?_)
  refine EL.quick 2 [2, 3, 10] [(2, .pointer (some ⟨g3092, 0, none⟩)), (3, .pointer (some ⟨g3093, 0, none⟩)), (10, .bool (decide (a2914 = a2928)))] (by kernel_rfl) ?_
  by_cases h3094 : a2914 = a2928
  · rw [if_pos h3094] at H
    refine EL.keep [2, 3, 10] [(2, .pointer (some ⟨g3092, 0, none⟩)), (3, .pointer (some ⟨g3093, 0, none⟩)), (10, .bool (decide (a2914 = a2928)))] (by kernel_rfl) ?_
    refine EL.as' [(2, .pointer (some ⟨g3092, 0, none⟩)), (3, .pointer (some ⟨g3093, 0, none⟩)), (10, .bool (true))] (by simp only [dec_t h3094, Bool.not_true, Bool.not_false]) ?_
    refine EL.quick 1 [2, 3, 10, 11] [(2, .pointer (some ⟨g3092, 0, none⟩)), (3, .pointer (some ⟨g3093, 0, none⟩)), (10, .bool (true)), (11, .pointer (some ⟨g3092, 1, none⟩))] (by kernel_rfl) ?_
    refine EL.of (EO.Y (YO.loadBox hS 1 rfl 3 1 1 (.int .i64 a2915) 12 (by kernel_rfl) (by kernel_rfl) (by kernel_rfl) (by kernel_rfl)) ?_)
    refine EL.quick 1 [2, 3, 10, 12, 13] [(2, .pointer (some ⟨g3092, 0, none⟩)), (3, .pointer (some ⟨g3093, 0, none⟩)), (10, .bool (true)), (12, .int .i64 a2915), (13, .pointer (some ⟨g3093, 1, none⟩))] (by kernel_rfl) ?_
    refine EL.of (EO.Y (YO.loadBox hS 0 rfl 3 1 1 (.int .i64 a2929) 14 (by kernel_rfl) (by kernel_rfl) (by kernel_rfl) (by kernel_rfl)) ?_)
    refine EL.quick 3 [2, 3, 17] [(2, .pointer (some ⟨g3092, 0, none⟩)), (3, .pointer (some ⟨g3093, 0, none⟩)), (17, .bool (decide (a2915 = a2929)))] (by kernel_rfl) ?_
    by_cases h3095 : a2915 = a2929
    · rw [if_pos h3095] at H
      refine EL.keep [2, 3, 17] [(2, .pointer (some ⟨g3092, 0, none⟩)), (3, .pointer (some ⟨g3093, 0, none⟩)), (17, .bool (decide (a2915 = a2929)))] (by kernel_rfl) ?_
      refine EL.as' [(2, .pointer (some ⟨g3092, 0, none⟩)), (3, .pointer (some ⟨g3093, 0, none⟩)), (17, .bool (true))] (by simp only [dec_t h3095, Bool.not_true, Bool.not_false]) ?_
      refine EL.quick 1 [2, 3, 17, 18] [(2, .pointer (some ⟨g3092, 0, none⟩)), (3, .pointer (some ⟨g3093, 0, none⟩)), (17, .bool (true)), (18, .pointer (some ⟨g3092, 2, none⟩))] (by kernel_rfl) ?_
      refine EL.of (EO.Y (YO.loadBox hS 1 rfl 3 2 1 (.int .i64 a2916) 19 (by kernel_rfl) (by kernel_rfl) (by kernel_rfl) (by kernel_rfl)) ?_)
      refine EL.quick 1 [2, 3, 17, 19, 20] [(2, .pointer (some ⟨g3092, 0, none⟩)), (3, .pointer (some ⟨g3093, 0, none⟩)), (17, .bool (true)), (19, .int .i64 a2916), (20, .pointer (some ⟨g3093, 2, none⟩))] (by kernel_rfl) ?_
      refine EL.of (EO.Y (YO.loadBox hS 0 rfl 3 2 1 (.int .i64 a2930) 21 (by kernel_rfl) (by kernel_rfl) (by kernel_rfl) (by kernel_rfl)) ?_)
      refine EL.quick 3 [2, 3, 24] [(2, .pointer (some ⟨g3092, 0, none⟩)), (3, .pointer (some ⟨g3093, 0, none⟩)), (24, .bool (decide (a2916 = a2930)))] (by kernel_rfl) ?_
      by_cases h3096 : a2916 = a2930
      · rw [if_pos h3096] at H
        refine EL.keep [2, 3, 24] [(2, .pointer (some ⟨g3092, 0, none⟩)), (3, .pointer (some ⟨g3093, 0, none⟩)), (24, .bool (decide (a2916 = a2930)))] (by kernel_rfl) ?_
        refine EL.as' [(2, .pointer (some ⟨g3092, 0, none⟩)), (3, .pointer (some ⟨g3093, 0, none⟩)), (24, .bool (true))] (by simp only [dec_t h3096, Bool.not_true, Bool.not_false]) ?_
        refine EL.quick 1 [2, 3, 24, 25] [(2, .pointer (some ⟨g3092, 0, none⟩)), (3, .pointer (some ⟨g3093, 0, none⟩)), (24, .bool (true)), (25, .pointer (some ⟨g3092, 3, none⟩))] (by kernel_rfl) ?_
        refine EL.of (EO.Y (YO.loadBox hS 1 rfl 33 3 1 (.slice A2918 l2917.length C2919) 26 (by kernel_rfl) (by kernel_rfl) (by kernel_rfl) (by kernel_rfl)) ?_)
        refine EL.quick 1 [2, 3, 24, 26, 27] [(2, .pointer (some ⟨g3092, 0, none⟩)), (3, .pointer (some ⟨g3093, 0, none⟩)), (24, .bool (true)), (26, .slice A2918 l2917.length C2919), (27, .pointer (some ⟨g3093, 3, none⟩))] (by kernel_rfl) ?_
        refine EL.of (EO.Y (YO.loadBox hS 0 rfl 33 3 1 (.slice A2932 l2931.length C2933) 28 (by kernel_rfl) (by kernel_rfl) (by kernel_rfl) (by kernel_rfl)) ?_)
        have hS : St B _ (Ass.box 37 g3093 [.int .i32 a2928, .int .i64 a2929, .int .i64 a2930, .slice A2932 l2931.length C2933, .int .i32 a2934, .int .i32 a2935, .int .i32 a2936, .int .i32 a2937, .int .i64 a2938, .int .i64 a2939, .int .u32 a2940, .int .i64 a2941] :: Ass.box 37 g3092 [.int .i32 a2914, .int .i64 a2915, .int .i64 a2916, .slice A2918 l2917.length C2919, .int .i32 a2920, .int .i32 a2921, .int .i32 a2922, .int .i32 a2923, .int .i64 a2924, .int .i64 a2925, .int .u32 a2926, .int .i64 a2927] :: os) (Ro.sl (Kd.int .i32) A2918 C2919 l2917 :: Ro.sl (Kd.int .i32) A2932 C2933 l2931 :: Ro.sl (Kd.int .i32) A2918 C2919 l2917 :: Ro.sl (Kd.int .i32) A2932 C2933 l2931 :: rs) := hS.re [] [] rfl (sub_cons 0 rfl (sub_cons 1 rfl sub_self))
        obtain ⟨t3097, hc3098, H⟩ := b1_out H
        refine EL.of (EO.callD 60 [.slice A2918 l2917.length C2919, .slice A2932 l2931.length C2933] _ 29 (by kernel_rfl) (by kernel_rfl) (by kernel_rfl) (confidantref9_SameInts.calls hc3098 hS) ?_)
        rintro v w ⟨rfl, hS⟩
        refine EL.quick 2 [2, 3, 31] [(2, .pointer (some ⟨g3092, 0, none⟩)), (3, .pointer (some ⟨g3093, 0, none⟩)), (31, .bool (t3097))] (by kernel_rfl) ?_
        by_cases h3099 : t3097 = true
        · rw [if_pos h3099] at H
          refine EL.keep [2, 3, 31] [(2, .pointer (some ⟨g3092, 0, none⟩)), (3, .pointer (some ⟨g3093, 0, none⟩)), (31, .bool (t3097))] (by kernel_rfl) ?_
          refine EL.as' [(2, .pointer (some ⟨g3092, 0, none⟩)), (3, .pointer (some ⟨g3093, 0, none⟩)), (31, .bool (true))] (by simp only [h3099, Bool.not_true, Bool.not_false]) ?_
          refine EL.quick 1 [2, 3, 31, 32] [(2, .pointer (some ⟨g3092, 0, none⟩)), (3, .pointer (some ⟨g3093, 0, none⟩)), (31, .bool (true)), (32, .pointer (some ⟨g3092, 4, none⟩))] (by kernel_rfl) ?_
          refine EL.of (EO.Y (YO.loadBox hS 1 rfl 34 4 4 (.agg #[.int .i32 a2920, .int .i32 a2921, .int .i32 a2922, .int .i32 a2923]) 33 (by kernel_rfl) (by kernel_rfl) (by kernel_rfl) (by kernel_rfl)) ?_)
          refine EL.quick 1 [2, 3, 31, 33, 34] [(2, .pointer (some ⟨g3092, 0, none⟩)), (3, .pointer (some ⟨g3093, 0, none⟩)), (31, .bool (true)), (33, .agg #[.int .i32 a2920, .int .i32 a2921, .int .i32 a2922, .int .i32 a2923]), (34, .pointer (some ⟨g3093, 4, none⟩))] (by kernel_rfl) ?_
          refine EL.of (EO.Y (YO.loadBox hS 0 rfl 34 4 4 (.agg #[.int .i32 a2934, .int .i32 a2935, .int .i32 a2936, .int .i32 a2937]) 35 (by kernel_rfl) (by kernel_rfl) (by kernel_rfl) (by kernel_rfl)) ?_)
          refine EL.of (EO.Y (YO.eqAg .eql 34 (.tmp 33) (.tmp 35) #[.int .i32 a2920, .int .i32 a2921, .int .i32 a2922, .int .i32 a2923] #[.int .i32 a2934, .int .i32 a2935, .int .i32 a2936, .int .i32 a2937] ((a2920 == a2934) && ((a2921 == a2935) && ((a2922 == a2936) && ((a2923 == a2937) && true)))) (((a2920 == a2934) && ((a2921 == a2935) && ((a2922 == a2936) && ((a2923 == a2937) && true))))) 36 (by kernel_rfl) (by kernel_rfl) (by kernel_rfl) (by kernel_rfl) (by kernel_rfl) (.inl ⟨rfl, rfl⟩)) ?_)
          refine EL.quick 2 [2, 3, 38] [(2, .pointer (some ⟨g3092, 0, none⟩)), (3, .pointer (some ⟨g3093, 0, none⟩)), (38, .bool (((a2920 == a2934) && ((a2921 == a2935) && ((a2922 == a2936) && ((a2923 == a2937) && true))))))] (by kernel_rfl) ?_
          by_cases h3100 : ((a2920 == a2934) && ((a2921 == a2935) && ((a2922 == a2936) && ((a2923 == a2937) && true)))) = true
          · rw [if_pos h3100] at H
            refine EL.keep [2, 3, 38] [(2, .pointer (some ⟨g3092, 0, none⟩)), (3, .pointer (some ⟨g3093, 0, none⟩)), (38, .bool (((a2920 == a2934) && ((a2921 == a2935) && ((a2922 == a2936) && ((a2923 == a2937) && true))))))] (by kernel_rfl) ?_
            refine EL.as' [(2, .pointer (some ⟨g3092, 0, none⟩)), (3, .pointer (some ⟨g3093, 0, none⟩)), (38, .bool (true))] (by simp only [h3100, Bool.not_true, Bool.not_false]) ?_
            refine EL.quick 1 [2, 3, 38, 39] [(2, .pointer (some ⟨g3092, 0, none⟩)), (3, .pointer (some ⟨g3093, 0, none⟩)), (38, .bool (true)), (39, .pointer (some ⟨g3092, 8, none⟩))] (by kernel_rfl) ?_
            refine EL.of (EO.Y (YO.loadBox hS 1 rfl 3 8 1 (.int .i64 a2924) 40 (by kernel_rfl) (by kernel_rfl) (by kernel_rfl) (by kernel_rfl)) ?_)
            refine EL.quick 1 [2, 3, 38, 40, 41] [(2, .pointer (some ⟨g3092, 0, none⟩)), (3, .pointer (some ⟨g3093, 0, none⟩)), (38, .bool (true)), (40, .int .i64 a2924), (41, .pointer (some ⟨g3093, 8, none⟩))] (by kernel_rfl) ?_
            refine EL.of (EO.Y (YO.loadBox hS 0 rfl 3 8 1 (.int .i64 a2938) 42 (by kernel_rfl) (by kernel_rfl) (by kernel_rfl) (by kernel_rfl)) ?_)
            refine EL.quick 3 [2, 3, 45] [(2, .pointer (some ⟨g3092, 0, none⟩)), (3, .pointer (some ⟨g3093, 0, none⟩)), (45, .bool (decide (a2924 = a2938)))] (by kernel_rfl) ?_
            by_cases h3101 : a2924 = a2938
            · rw [if_pos h3101] at H
              refine EL.keep [2, 3, 45] [(2, .pointer (some ⟨g3092, 0, none⟩)), (3, .pointer (some ⟨g3093, 0, none⟩)), (45, .bool (decide (a2924 = a2938)))] (by kernel_rfl) ?_
              refine EL.as' [(2, .pointer (some ⟨g3092, 0, none⟩)), (3, .pointer (some ⟨g3093, 0, none⟩)), (45, .bool (true))] (by simp only [dec_t h3101, Bool.not_true, Bool.not_false]) ?_
              refine EL.quick 1 [2, 3, 45, 46] [(2, .pointer (some ⟨g3092, 0, none⟩)), (3, .pointer (some ⟨g3093, 0, none⟩)), (45, .bool (true)), (46, .pointer (some ⟨g3092, 9, none⟩))] (by kernel_rfl) ?_
              refine EL.of (EO.Y (YO.loadBox hS 1 rfl 3 9 1 (.int .i64 a2925) 47 (by kernel_rfl) (by kernel_rfl) (by kernel_rfl) (by kernel_rfl)) ?_)
              refine EL.quick 1 [2, 3, 45, 47, 48] [(2, .pointer (some ⟨g3092, 0, none⟩)), (3, .pointer (some ⟨g3093, 0, none⟩)), (45, .bool (true)), (47, .int .i64 a2925), (48, .pointer (some ⟨g3093, 9, none⟩))] (by kernel_rfl) ?_
              refine EL.of (EO.Y (YO.loadBox hS 0 rfl 3 9 1 (.int .i64 a2939) 49 (by kernel_rfl) (by kernel_rfl) (by kernel_rfl) (by kernel_rfl)) ?_)
              refine EL.quick 3 [2, 3, 52] [(2, .pointer (some ⟨g3092, 0, none⟩)), (3, .pointer (some ⟨g3093, 0, none⟩)), (52, .bool (decide (a2925 = a2939)))] (by kernel_rfl) ?_
              by_cases h3102 : a2925 = a2939
              · rw [if_pos h3102] at H
                refine EL.keep [2, 3, 52] [(2, .pointer (some ⟨g3092, 0, none⟩)), (3, .pointer (some ⟨g3093, 0, none⟩)), (52, .bool (decide (a2925 = a2939)))] (by kernel_rfl) ?_
                refine EL.as' [(2, .pointer (some ⟨g3092, 0, none⟩)), (3, .pointer (some ⟨g3093, 0, none⟩)), (52, .bool (true))] (by simp only [dec_t h3102, Bool.not_true, Bool.not_false]) ?_
                refine EL.quick 1 [2, 3, 52, 53] [(2, .pointer (some ⟨g3092, 0, none⟩)), (3, .pointer (some ⟨g3093, 0, none⟩)), (52, .bool (true)), (53, .pointer (some ⟨g3092, 10, none⟩))] (by kernel_rfl) ?_
                refine EL.of (EO.Y (YO.loadBox hS 1 rfl 35 10 1 (.int .u32 a2926) 54 (by kernel_rfl) (by kernel_rfl) (by kernel_rfl) (by kernel_rfl)) ?_)
                refine EL.quick 1 [2, 3, 52, 54, 55] [(2, .pointer (some ⟨g3092, 0, none⟩)), (3, .pointer (some ⟨g3093, 0, none⟩)), (52, .bool (true)), (54, .int .u32 a2926), (55, .pointer (some ⟨g3093, 10, none⟩))] (by kernel_rfl) ?_
                refine EL.of (EO.Y (YO.loadBox hS 0 rfl 35 10 1 (.int .u32 a2940) 56 (by kernel_rfl) (by kernel_rfl) (by kernel_rfl) (by kernel_rfl)) ?_)
                refine EL.quick 3 [2, 3, 59] [(2, .pointer (some ⟨g3092, 0, none⟩)), (3, .pointer (some ⟨g3093, 0, none⟩)), (59, .bool (decide (a2926 = a2940)))] (by kernel_rfl) ?_
                by_cases h3103 : a2926 = a2940
                · rw [if_pos h3103] at H
                  refine EL.keep [2, 3, 59] [(2, .pointer (some ⟨g3092, 0, none⟩)), (3, .pointer (some ⟨g3093, 0, none⟩)), (59, .bool (decide (a2926 = a2940)))] (by kernel_rfl) ?_
                  refine EL.as' [(2, .pointer (some ⟨g3092, 0, none⟩)), (3, .pointer (some ⟨g3093, 0, none⟩)), (59, .bool (true))] (by simp only [dec_t h3103, Bool.not_true, Bool.not_false]) ?_
                  refine EL.quick 1 [3, 59, 60] [(3, .pointer (some ⟨g3093, 0, none⟩)), (59, .bool (true)), (60, .pointer (some ⟨g3092, 11, none⟩))] (by kernel_rfl) ?_
                  refine EL.of (EO.Y (YO.loadBox hS 1 rfl 3 11 1 (.int .i64 a2927) 61 (by kernel_rfl) (by kernel_rfl) (by kernel_rfl) (by kernel_rfl)) ?_)
                  refine EL.quick 1 [59, 61, 62] [(59, .bool (true)), (61, .int .i64 a2927), (62, .pointer (some ⟨g3093, 11, none⟩))] (by kernel_rfl) ?_
                  refine EL.of (EO.Y (YO.loadBox hS 0 rfl 3 11 1 (.int .i64 a2941) 63 (by kernel_rfl) (by kernel_rfl) (by kernel_rfl) (by kernel_rfl)) ?_)
                  refine EL.quick 3 [4] [(4, .bool (decide (a2927 = a2941)))] (by kernel_rfl) ?_
                  refine EL.done (by kernel_rfl) ?_
                  refine EQ.code ?_
                  refine EW.ret (by kernel_rfl) ?_
                  obtain rfl := Option.some.inj H
                  exact EQ.leave (.bool (decide (a2927 = a2941))) (by kernel_rfl) ⟨_, rfl, rfl, (hS.re [] [0, 0] rfl (sub_tail (sub_tail (sub_self))))⟩
                · rw [if_neg h3103] at H
                  refine EL.keep [2, 3, 59] [(2, .pointer (some ⟨g3092, 0, none⟩)), (3, .pointer (some ⟨g3093, 0, none⟩)), (59, .bool (decide (a2926 = a2940)))] (by kernel_rfl) ?_
                  refine EL.as' [(2, .pointer (some ⟨g3092, 0, none⟩)), (3, .pointer (some ⟨g3093, 0, none⟩)), (59, .bool (false))] (by simp only [dec_f h3103, Bool.not_true, Bool.not_false]) ?_
                  refine EL.quick 7 [4] [(4, .bool (false))] (by kernel_rfl) ?_
                  refine EL.done (by kernel_rfl) ?_
                  refine EQ.code ?_
                  refine EW.ret (by kernel_rfl) ?_
                  obtain rfl := Option.some.inj H
                  exact EQ.leave (.bool (false)) (by kernel_rfl) ⟨_, rfl, rfl, (hS.re [] [0, 0] rfl (sub_tail (sub_tail (sub_self))))⟩
              · rw [if_neg h3102] at H
                refine EL.keep [2, 3, 52] [(2, .pointer (some ⟨g3092, 0, none⟩)), (3, .pointer (some ⟨g3093, 0, none⟩)), (52, .bool (decide (a2925 = a2939)))] (by kernel_rfl) ?_
                refine EL.as' [(2, .pointer (some ⟨g3092, 0, none⟩)), (3, .pointer (some ⟨g3093, 0, none⟩)), (52, .bool (false))] (by simp only [dec_f h3102, Bool.not_true, Bool.not_false]) ?_
                refine EL.quick 14 [4] [(4, .bool (false))] (by kernel_rfl) ?_
                refine EL.done (by kernel_rfl) ?_
                refine EQ.code ?_
                refine EW.ret (by kernel_rfl) ?_
                obtain rfl := Option.some.inj H
                exact EQ.leave (.bool (false)) (by kernel_rfl) ⟨_, rfl, rfl, (hS.re [] [0, 0] rfl (sub_tail (sub_tail (sub_self))))⟩
            · rw [if_neg h3101] at H
              refine EL.keep [2, 3, 45] [(2, .pointer (some ⟨g3092, 0, none⟩)), (3, .pointer (some ⟨g3093, 0, none⟩)), (45, .bool (decide (a2924 = a2938)))] (by kernel_rfl) ?_
              refine EL.as' [(2, .pointer (some ⟨g3092, 0, none⟩)), (3, .pointer (some ⟨g3093, 0, none⟩)), (45, .bool (false))] (by simp only [dec_f h3101, Bool.not_true, Bool.not_false]) ?_
              refine EL.quick 21 [4] [(4, .bool (false))] (by kernel_rfl) ?_
              refine EL.done (by kernel_rfl) ?_
              refine EQ.code ?_
              refine EW.ret (by kernel_rfl) ?_
              obtain rfl := Option.some.inj H
              exact EQ.leave (.bool (false)) (by kernel_rfl) ⟨_, rfl, rfl, (hS.re [] [0, 0] rfl (sub_tail (sub_tail (sub_self))))⟩
          · rw [if_neg h3100] at H
            refine EL.keep [2, 3, 38] [(2, .pointer (some ⟨g3092, 0, none⟩)), (3, .pointer (some ⟨g3093, 0, none⟩)), (38, .bool (((a2920 == a2934) && ((a2921 == a2935) && ((a2922 == a2936) && ((a2923 == a2937) && true))))))] (by kernel_rfl) ?_
            refine EL.as' [(2, .pointer (some ⟨g3092, 0, none⟩)), (3, .pointer (some ⟨g3093, 0, none⟩)), (38, .bool (false))] (by simp only [(Bool.eq_false_iff.2 h3100), Bool.not_true, Bool.not_false]) ?_
            refine EL.quick 28 [4] [(4, .bool (false))] (by kernel_rfl) ?_
            refine EL.done (by kernel_rfl) ?_
            refine EQ.code ?_
            refine EW.ret (by kernel_rfl) ?_
            obtain rfl := Option.some.inj H
            exact EQ.leave (.bool (false)) (by kernel_rfl) ⟨_, rfl, rfl, (hS.re [] [0, 0] rfl (sub_tail (sub_tail (sub_self))))⟩
        · rw [if_neg h3099] at H
          refine EL.keep [2, 3, 31] [(2, .pointer (some ⟨g3092, 0, none⟩)), (3, .pointer (some ⟨g3093, 0, none⟩)), (31, .bool (t3097))] (by kernel_rfl) ?_
          refine EL.as' [(2, .pointer (some ⟨g3092, 0, none⟩)), (3, .pointer (some ⟨g3093, 0, none⟩)), (31, .bool (false))] (by simp only [(Bool.eq_false_iff.2 h3099), Bool.not_true, Bool.not_false]) ?_
          refine EL.quick 35 [4] [(4, .bool (false))] (by kernel_rfl) ?_
          refine EL.done (by kernel_rfl) ?_
          refine EQ.code ?_
          refine EW.ret (by kernel_rfl) ?_
          obtain rfl := Option.some.inj H
          exact EQ.leave (.bool (false)) (by kernel_rfl) ⟨_, rfl, rfl, (hS.re [] [0, 0] rfl (sub_tail (sub_tail (sub_self))))⟩
      · rw [if_neg h3096] at H
        refine EL.keep [2, 3, 24] [(2, .pointer (some ⟨g3092, 0, none⟩)), (3, .pointer (some ⟨g3093, 0, none⟩)), (24, .bool (decide (a2916 = a2930)))] (by kernel_rfl) ?_
        refine EL.as' [(2, .pointer (some ⟨g3092, 0, none⟩)), (3, .pointer (some ⟨g3093, 0, none⟩)), (24, .bool (false))] (by simp only [dec_f h3096, Bool.not_true, Bool.not_false]) ?_
        refine EL.quick 42 [4] [(4, .bool (false))] (by kernel_rfl) ?_
        refine EL.done (by kernel_rfl) ?_
        refine EQ.code ?_
        refine EW.ret (by kernel_rfl) ?_
        obtain rfl := Option.some.inj H
        exact EQ.leave (.bool (false)) (by kernel_rfl) ⟨_, rfl, rfl, (hS.re [] [0, 0] rfl (sub_self))⟩
    · rw [if_neg h3095] at H
      refine EL.keep [2, 3, 17] [(2, .pointer (some ⟨g3092, 0, none⟩)), (3, .pointer (some ⟨g3093, 0, none⟩)), (17, .bool (decide (a2915 = a2929)))] (by kernel_rfl) ?_
      refine EL.as' [(2, .pointer (some ⟨g3092, 0, none⟩)), (3, .pointer (some ⟨g3093, 0, none⟩)), (17, .bool (false))] (by simp only [dec_f h3095, Bool.not_true, Bool.not_false]) ?_
      refine EL.quick 49 [4] [(4, .bool (false))] (by kernel_rfl) ?_
      refine EL.done (by kernel_rfl) ?_
      refine EQ.code ?_
      refine EW.ret (by kernel_rfl) ?_
      obtain rfl := Option.some.inj H
      exact EQ.leave (.bool (false)) (by kernel_rfl) ⟨_, rfl, rfl, (hS.re [] [0, 0] rfl (sub_self))⟩
  · rw [if_neg h3094] at H
    refine EL.keep [2, 3, 10] [(2, .pointer (some ⟨g3092, 0, none⟩)), (3, .pointer (some ⟨g3093, 0, none⟩)), (10, .bool (decide (a2914 = a2928)))] (by kernel_rfl) ?_
    refine EL.as' [(2, .pointer (some ⟨g3092, 0, none⟩)), (3, .pointer (some ⟨g3093, 0, none⟩)), (10, .bool (false))] (by simp only [dec_f h3094, Bool.not_true, Bool.not_false]) ?_
    refine EL.quick 56 [4] [(4, .bool (false))] (by kernel_rfl) ?_
    refine EL.done (by kernel_rfl) ?_
    refine EQ.code ?_
    refine EW.ret (by kernel_rfl) ?_
    obtain rfl := Option.some.inj H
    exact EQ.leave (.bool (false)) (by kernel_rfl) ⟨_, rfl, rfl, (hS.re [] [0, 0] rfl (sub_self))⟩

/-! ### (*confidant/confidantref15.Ring).Steal: function 25 -/
def confidantref15_Ring_Steal.f (K : Nat) (a3135 : Int) (l3136 : List S37) : Option (Int × List S37 × S37 × Bool) := if (l3136.length : Int) = 0 then (some (a3135, l3136, (⟨0, 0, 0, ([] : List Int), (⟨0, 0, 0, 0⟩ : S34), 0, 0, 0, 0⟩ : S37), false)) else (if (0 : Int) < (l3136.length : Int) then (if (1 : Int) ≤ (l3136.length : Int) then (lt (l3136.drop 1) fun l3184 => (some (a3135, l3184, (⟨(l3136.getD (0 : Int).toNat zS37).f0, (l3136.getD (0 : Int).toNat zS37).f1, (l3136.getD (0 : Int).toNat zS37).f2, (l3136.getD (0 : Int).toNat zS37).f3, (⟨(l3136.getD (0 : Int).toNat zS37).f4.f0, (l3136.getD (0 : Int).toNat zS37).f4.f1, (l3136.getD (0 : Int).toNat zS37).f4.f2, (l3136.getD (0 : Int).toNat zS37).f4.f3⟩ : S34), (l3136.getD (0 : Int).toNat zS37).f5, (l3136.getD (0 : Int).toNat zS37).f6, (l3136.getD (0 : Int).toNat zS37).f7, (l3136.getD (0 : Int).toNat zS37).f8⟩ : S37), true))) else none) else none)
set_option maxRecDepth 100000 in
theorem confidantref15_Ring_Steal.calls {K : Nat} {a3135 : Int} {l3136 : List S37} {g3134 : Nat} {A3137 : Option Addr} {C3138 : Nat} {x3159 : Int} {x3160 : List S37} {x3163 : S37} {x3166 : Bool} {B w : World} {os : List Ass} {rs : List Ro} (H : confidantref15_Ring_Steal.f K a3135 l3136 = some (x3159, x3160, x3163, x3166)) (hS : St B w (Ass.box 32 g3134 [.int .i64 a3135, .slice A3137 l3136.length C3138] :: os) (Ro.sl kS37 A3137 C3138 l3136 :: rs)) :
    Calls Try.prog 25 [.pointer (some ⟨g3134, 0, none⟩)].toArray w (fun en w' => ∃ v, en = .returned v ∧ ∃ A3161 : Option Addr, ∃ C3162 : Nat, ∃ A3164 : Option Addr, ∃ C3165 : Nat, v = .tuple #[.agg #[.int .i32 x3163.f0, .int .i64 x3163.f1, .int .i64 x3163.f2, .slice A3164 x3163.f3.length C3165, .int .i32 x3163.f4.f0, .int .i32 x3163.f4.f1, .int .i32 x3163.f4.f2, .int .i32 x3163.f4.f3, .int .i64 x3163.f5, .int .i64 x3163.f6, .int .u32 x3163.f7, .int .i64 x3163.f8], .bool (x3166)] ∧ St B w' (Ass.box 32 g3134 [.int .i64 x3159, .slice A3161 x3160.length C3162] :: os) (Ro.sl kS37 A3161 C3162 x3160 :: Ro.sl (Kd.int .i32) A3164 C3165 x3163.f3 :: Ro.sl kS37 A3137 C3138 l3136 :: rs)) := by
  unfold confidantref15_Ring_Steal.f at H
  refine calls_of_EW (args := [.pointer (some ⟨g3134, 0, none⟩)]) (c := Cd25) 27 Try.func25 (by kernel_rfl) (by kernel_rfl) (by kernel_rfl) ?_
  refine EW.seq (x := Cd25.l) (y := Cd25.r) (by kernel_rfl) ?_
  refine EW.region (id := 0) (ops := Cd25.l.ops) (by kernel_rfl) ?_
  refine EL.of (EO.alloc hS 37 (.agg #[.int .i32 0, .int .i64 0, .int .i64 0, .slice none ([] : List Int).length 0, .int .i32 0, .int .i32 0, .int .i32 0, .int .i32 0, .int .i64 0, .int .i64 0, .int .u32 0, .int .i64 0]) [.int .i32 0, .int .i64 0, .int .i64 0, .slice none ([] : List Int).length 0, .int .i32 0, .int .i32 0, .int .i32 0, .int .i32 0, .int .i64 0, .int .i64 0, .int .u32 0, .int .i64 0] 2 (by kernel_rfl) (by kernel_rfl) (by kernel_rfl) (by kernel_rfl) (by first | rfl | kernel_rfl) ?_)
  intro g3168 w hS
  refine EL.quick 1 [0, 2] [(0, .pointer (some ⟨g3134, 0, none⟩)), (2, .pointer (some ⟨g3168, 0, none⟩))] (by kernel_rfl) ?_
  refine EL.done (by kernel_rfl) ?_
  refine EQ.code ?_
  refine EW.seq (x := Cd25.r.l) (y := Cd25.r.r) (by kernel_rfl) ?_
  refine EW.seq (x := Cd25.r.l.l) (y := Cd25.r.l.r) (by kernel_rfl) ?_
  refine EW.region (id := 1) (ops := Cd25.r.l.l.ops) (by kernel_rfl) ?_
  refine EL.quick 3 [0, 2, 7] [(0, .pointer (some ⟨g3134, 0, none⟩)), (2, .pointer (some ⟨g3168, 0, none⟩)), (7, .pointer (some ⟨g3134, 1, none⟩))] (by kernel_rfl) ?_
  refine EL.of (EO.Y (YO.loadBox hS 1 rfl 30 1 1 (.slice A3137 l3136.length C3138) 8 (by kernel_rfl) (by kernel_rfl) (by kernel_rfl) (by kernel_rfl)) ?_)
  refine EL.quick 2 [0, 2, 10] [(0, .pointer (some ⟨g3134, 0, none⟩)), (2, .pointer (some ⟨g3168, 0, none⟩)), (10, .bool (decide ((l3136.length : Int) = 0)))] (by kernel_rfl) ?_
  refine EL.done (by kernel_rfl) ?_
  refine EQ.code ?_
  refine EW.condP (o := (.tmp 10)) (x := Cd25.r.l.r.l) (y := Cd25.r.l.r.r) ((l3136.length : Int) = 0) (by kernel_rfl) (by kernel_rfl) (fun h3170 => ?_) (fun h3170 => ?_)
  · rw [if_pos h3170] at H
    refine EW.seq (x := Cd25.r.l.r.l.l) (y := Cd25.r.l.r.l.r) (by kernel_rfl) ?_
    refine EW.region (id := 2) (ops := Cd25.r.l.r.l.l.ops) (by kernel_rfl) ?_
    refine EL.quick 1 [2, 11] [(2, .pointer (some ⟨g3168, 0, none⟩)), (11, .agg #[.int .i32 0, .int .i64 0, .int .i64 0, .slice none ([] : List Int).length 0, .int .i32 0, .int .i32 0, .int .i32 0, .int .i32 0, .int .i64 0, .int .i64 0, .int .u32 0, .int .i64 0])] (by kernel_rfl) ?_
    refine EL.of (EO.storeBox (os' := Ass.box 37 g3168 [.int .i32 0, .int .i64 0, .int .i64 0, .slice none ([] : List Int).length 0, .int .i32 0, .int .i32 0, .int .i32 0, .int .i32 0, .int .i64 0, .int .i64 0, .int .u32 0, .int .i64 0] :: Ass.box 32 g3134 [.int .i64 a3135, .slice A3137 l3136.length C3138] :: os) hS 0 rfl 37 0 (.agg #[.int .i32 0, .int .i64 0, .int .i64 0, .slice none ([] : List Int).length 0, .int .i32 0, .int .i32 0, .int .i32 0, .int .i32 0, .int .i64 0, .int .i64 0, .int .u32 0, .int .i64 0]) [.int .i32 0, .int .i64 0, .int .i64 0, .slice none ([] : List Int).length 0, .int .i32 0, .int .i32 0, .int .i32 0, .int .i32 0, .int .i64 0, .int .i64 0, .int .u32 0, .int .i64 0] (by kernel_rfl) (by kernel_rfl) (by kernel_rfl) (by kernel_rfl) (by kernel_rfl) (by kernel_rfl) rfl rfl ?_)
    intro w hS
    refine EL.quick 1 [2, 3] [(2, .pointer (some ⟨g3168, 0, none⟩)), (3, .bool (false))] (by kernel_rfl) ?_
    refine EL.done (by kernel_rfl) ?_
    refine EQ.code ?_
    refine EW.ret (by kernel_rfl) ?_
    refine EQ.ret ?_
    have hS := St.nilR hS (Kd.int .i32)
    simp only [Option.some.injEq, Prod.mk.injEq] at H
    obtain ⟨rfl, rfl, rfl, rfl⟩ := H
    exact EQ.leave2 hS (.cell 2 37) (.tmp 3) (.agg #[.int .i32 0, .int .i64 0, .int .i64 0, .slice none ([] : List Int).length 0, .int .i32 0, .int .i32 0, .int .i32 0, .int .i32 0, .int .i64 0, .int .i64 0, .int .u32 0, .int .i64 0]) (.bool (false)) (by kernel_rfl) ⟨0, 37, g3168, [.int .i32 0, .int .i64 0, .int .i64 0, .slice none ([] : List Int).length 0, .int .i32 0, .int .i32 0, .int .i32 0, .int .i32 0, .int .i64 0, .int .i64 0, .int .u32 0, .int .i64 0], 0, 12, rfl, (by kernel_rfl), (by kernel_rfl)⟩ (oneTmp (by kernel_rfl)) ⟨_, rfl, A3137, C3138, none, 0, rfl, (hS.re [1] [1] rfl (sub_cons 1 rfl (sub_cons 0 rfl (sub_tail (sub_self)))))⟩
  · rw [if_neg h3170] at H
    refine EW.skip (by kernel_rfl) ?_
    refine EQ.code ?_
    refine EW.seq (x := Cd25.r.r.l) (y := Cd25.r.r.r) (by kernel_rfl) ?_
    refine EW.region (id := 3) (ops := Cd25.r.r.l.ops) (by kernel_rfl) ?_
    refine EL.quick 3 [0, 2, 14] [(0, .pointer (some ⟨g3134, 0, none⟩)), (2, .pointer (some ⟨g3168, 0, none⟩)), (14, .pointer (some ⟨g3134, 1, none⟩))] (by kernel_rfl) ?_
    refine EL.of (EO.Y (YO.loadBox hS 1 rfl 30 1 1 (.slice A3137 l3136.length C3138) 15 (by kernel_rfl) (by kernel_rfl) (by kernel_rfl) (by kernel_rfl)) ?_)
    obtain ⟨h3175, H⟩ := ite_in H
    obtain ⟨ad3176, rfl⟩ := St.rd_some hS (Rd.ro 0 rfl) (by decide) h3175
    refine EL.of (EO.Y (YO.idx 30 12 ad3176 l3136.length C3138 .i64 0 16 (by kernel_rfl) (by kernel_rfl) (by kernel_rfl) (by kernel_rfl) (by decide) h3175) ?_)
    refine EL.of (EO.loadPt hS kS37 ad3176 C3138 l3136 (Rd.ro 0 rfl) zS37 cellsS37 factsS37 partsS37 0 (by decide) h3175 37 12 0 12 rfl (fun b3177 => .agg #[.int .i32 ((l3136.getD (0 : Int).toNat zS37).f0), .int .i64 ((l3136.getD (0 : Int).toNat zS37).f1), .int .i64 ((l3136.getD (0 : Int).toNat zS37).f2), .slice b3177.1 ((l3136.getD (0 : Int).toNat zS37).f3).length b3177.2, .int .i32 ((l3136.getD (0 : Int).toNat zS37).f4.f0), .int .i32 ((l3136.getD (0 : Int).toNat zS37).f4.f1), .int .i32 ((l3136.getD (0 : Int).toNat zS37).f4.f2), .int .i32 ((l3136.getD (0 : Int).toNat zS37).f4.f3), .int .i64 ((l3136.getD (0 : Int).toNat zS37).f5), .int .i64 ((l3136.getD (0 : Int).toNat zS37).f6), .int .u32 ((l3136.getD (0 : Int).toNat zS37).f7), .int .i64 ((l3136.getD (0 : Int).toNat zS37).f8)]) 17 (by kernel_rfl) (by kernel_rfl) (by kernel_rfl) (fun b3177 => (by kernel_rfl)) ?_)
    intro b3177 hS
    refine EL.of (EO.alloc hS 37 (.agg #[.int .i32 0, .int .i64 0, .int .i64 0, .slice none ([] : List Int).length 0, .int .i32 0, .int .i32 0, .int .i32 0, .int .i32 0, .int .i64 0, .int .i64 0, .int .u32 0, .int .i64 0]) [.int .i32 0, .int .i64 0, .int .i64 0, .slice none ([] : List Int).length 0, .int .i32 0, .int .i32 0, .int .i32 0, .int .i32 0, .int .i64 0, .int .i64 0, .int .u32 0, .int .i64 0] 4 (by kernel_rfl) (by kernel_rfl) (by kernel_rfl) (by kernel_rfl) (by first | rfl | kernel_rfl) ?_)
    intro g3178 w hS
    refine EL.of (EO.storeBox (os' := Ass.box 37 g3178 [.int .i32 ((l3136.getD (0 : Int).toNat zS37).f0), .int .i64 ((l3136.getD (0 : Int).toNat zS37).f1), .int .i64 ((l3136.getD (0 : Int).toNat zS37).f2), .slice b3177.1 ((l3136.getD (0 : Int).toNat zS37).f3).length b3177.2, .int .i32 ((l3136.getD (0 : Int).toNat zS37).f4.f0), .int .i32 ((l3136.getD (0 : Int).toNat zS37).f4.f1), .int .i32 ((l3136.getD (0 : Int).toNat zS37).f4.f2), .int .i32 ((l3136.getD (0 : Int).toNat zS37).f4.f3), .int .i64 ((l3136.getD (0 : Int).toNat zS37).f5), .int .i64 ((l3136.getD (0 : Int).toNat zS37).f6), .int .u32 ((l3136.getD (0 : Int).toNat zS37).f7), .int .i64 ((l3136.getD (0 : Int).toNat zS37).f8)] :: Ass.box 37 g3168 [.int .i32 0, .int .i64 0, .int .i64 0, .slice none ([] : List Int).length 0, .int .i32 0, .int .i32 0, .int .i32 0, .int .i32 0, .int .i64 0, .int .i64 0, .int .u32 0, .int .i64 0] :: Ass.box 32 g3134 [.int .i64 a3135, .slice (some ad3176) l3136.length C3138] :: os) hS 0 rfl 37 0 (.agg #[.int .i32 ((l3136.getD (0 : Int).toNat zS37).f0), .int .i64 ((l3136.getD (0 : Int).toNat zS37).f1), .int .i64 ((l3136.getD (0 : Int).toNat zS37).f2), .slice b3177.1 ((l3136.getD (0 : Int).toNat zS37).f3).length b3177.2, .int .i32 ((l3136.getD (0 : Int).toNat zS37).f4.f0), .int .i32 ((l3136.getD (0 : Int).toNat zS37).f4.f1), .int .i32 ((l3136.getD (0 : Int).toNat zS37).f4.f2), .int .i32 ((l3136.getD (0 : Int).toNat zS37).f4.f3), .int .i64 ((l3136.getD (0 : Int).toNat zS37).f5), .int .i64 ((l3136.getD (0 : Int).toNat zS37).f6), .int .u32 ((l3136.getD (0 : Int).toNat zS37).f7), .int .i64 ((l3136.getD (0 : Int).toNat zS37).f8)]) [.int .i32 ((l3136.getD (0 : Int).toNat zS37).f0), .int .i64 ((l3136.getD (0 : Int).toNat zS37).f1), .int .i64 ((l3136.getD (0 : Int).toNat zS37).f2), .slice b3177.1 ((l3136.getD (0 : Int).toNat zS37).f3).length b3177.2, .int .i32 ((l3136.getD (0 : Int).toNat zS37).f4.f0), .int .i32 ((l3136.getD (0 : Int).toNat zS37).f4.f1), .int .i32 ((l3136.getD (0 : Int).toNat zS37).f4.f2), .int .i32 ((l3136.getD (0 : Int).toNat zS37).f4.f3), .int .i64 ((l3136.getD (0 : Int).toNat zS37).f5), .int .i64 ((l3136.getD (0 : Int).toNat zS37).f6), .int .u32 ((l3136.getD (0 : Int).toNat zS37).f7), .int .i64 ((l3136.getD (0 : Int).toNat zS37).f8)] (by kernel_rfl) (by kernel_rfl) (by kernel_rfl) (by kernel_rfl) (by kernel_rfl) (by kernel_rfl) rfl rfl ?_)
    intro w hS
    refine EL.done (by kernel_rfl) ?_
    refine EQ.code ?_
    refine EW.seq (x := Cd25.r.r.r.l) (y := Cd25.r.r.r.r) (by kernel_rfl) ?_
    refine EW.region (id := 4) (ops := Cd25.r.r.r.l.ops) (by kernel_rfl) ?_
    refine EL.quick 4 [2, 4, 18, 21] [(2, .pointer (some ⟨g3168, 0, none⟩)), (4, .pointer (some ⟨g3178, 0, none⟩)), (18, .pointer (some ⟨g3134, 0, none⟩)), (21, .pointer (some ⟨g3134, 1, none⟩))] (by kernel_rfl) ?_
    refine EL.of (EO.Y (YO.loadBox hS 2 rfl 30 1 1 (.slice (some ad3176) l3136.length C3138) 22 (by kernel_rfl) (by kernel_rfl) (by kernel_rfl) (by kernel_rfl)) ?_)
    obtain ⟨h3183, H⟩ := ite_in H
    obtain ⟨l3184, hl3184, H⟩ := lt_out H
    refine EL.of (EO.sliceRo hS kS37 (some ad3176) C3138 l3136 1 rfl (some (.int .i64 1)) none none 1 l3136.length C3138 l3184 (by rw [hl3184]; exact (slice_lo _ _)) 30 23 (by kernel_rfl) (by kernel_rfl) (by kernel_rfl) (by kernel_rfl) (rfl) (rfl) ⟨rfl, fun h => by first | rfl | cases h⟩ (by omega) (by omega) (.inl rfl) ?_)
    intro A3185 C3186 hS
    refine EL.quick 2 [2, 4, 23, 25] [(2, .pointer (some ⟨g3168, 0, none⟩)), (4, .pointer (some ⟨g3178, 0, none⟩)), (23, .slice A3185 l3184.length C3186), (25, .pointer (some ⟨g3134, 1, none⟩))] (by kernel_rfl) ?_
    refine EL.of (EO.storeBox (os' := Ass.box 37 g3178 [.int .i32 ((l3136.getD (0 : Int).toNat zS37).f0), .int .i64 ((l3136.getD (0 : Int).toNat zS37).f1), .int .i64 ((l3136.getD (0 : Int).toNat zS37).f2), .slice b3177.1 ((l3136.getD (0 : Int).toNat zS37).f3).length b3177.2, .int .i32 ((l3136.getD (0 : Int).toNat zS37).f4.f0), .int .i32 ((l3136.getD (0 : Int).toNat zS37).f4.f1), .int .i32 ((l3136.getD (0 : Int).toNat zS37).f4.f2), .int .i32 ((l3136.getD (0 : Int).toNat zS37).f4.f3), .int .i64 ((l3136.getD (0 : Int).toNat zS37).f5), .int .i64 ((l3136.getD (0 : Int).toNat zS37).f6), .int .u32 ((l3136.getD (0 : Int).toNat zS37).f7), .int .i64 ((l3136.getD (0 : Int).toNat zS37).f8)] :: Ass.box 37 g3168 [.int .i32 0, .int .i64 0, .int .i64 0, .slice none ([] : List Int).length 0, .int .i32 0, .int .i32 0, .int .i32 0, .int .i32 0, .int .i64 0, .int .i64 0, .int .u32 0, .int .i64 0] :: Ass.box 32 g3134 [.int .i64 a3135, .slice A3185 l3184.length C3186] :: os) hS 2 rfl 30 1 (.slice A3185 l3184.length C3186) [.int .i64 a3135, .slice A3185 l3184.length C3186] (by kernel_rfl) (by kernel_rfl) (by kernel_rfl) (by kernel_rfl) (by kernel_rfl) (by kernel_rfl) rfl rfl ?_)
    intro w hS
    refine EL.done (by kernel_rfl) ?_
    refine EQ.code ?_
    refine EW.seq (x := Cd25.r.r.r.r.l) (y := Cd25.r.r.r.r.r) (by kernel_rfl) ?_
    refine EW.region (id := 5) (ops := Cd25.r.r.r.r.l.ops) (by kernel_rfl) ?_
    refine EL.of (EO.Y (YO.loadBox hS 0 rfl 37 0 12 (.agg #[.int .i32 ((l3136.getD (0 : Int).toNat zS37).f0), .int .i64 ((l3136.getD (0 : Int).toNat zS37).f1), .int .i64 ((l3136.getD (0 : Int).toNat zS37).f2), .slice b3177.1 ((l3136.getD (0 : Int).toNat zS37).f3).length b3177.2, .int .i32 ((l3136.getD (0 : Int).toNat zS37).f4.f0), .int .i32 ((l3136.getD (0 : Int).toNat zS37).f4.f1), .int .i32 ((l3136.getD (0 : Int).toNat zS37).f4.f2), .int .i32 ((l3136.getD (0 : Int).toNat zS37).f4.f3), .int .i64 ((l3136.getD (0 : Int).toNat zS37).f5), .int .i64 ((l3136.getD (0 : Int).toNat zS37).f6), .int .u32 ((l3136.getD (0 : Int).toNat zS37).f7), .int .i64 ((l3136.getD (0 : Int).toNat zS37).f8)]) 26 (by kernel_rfl) (by kernel_rfl) (by kernel_rfl) (by kernel_rfl)) ?_)
    refine EL.of (EO.storeBox (os' := Ass.box 37 g3178 [.int .i32 ((l3136.getD (0 : Int).toNat zS37).f0), .int .i64 ((l3136.getD (0 : Int).toNat zS37).f1), .int .i64 ((l3136.getD (0 : Int).toNat zS37).f2), .slice b3177.1 ((l3136.getD (0 : Int).toNat zS37).f3).length b3177.2, .int .i32 ((l3136.getD (0 : Int).toNat zS37).f4.f0), .int .i32 ((l3136.getD (0 : Int).toNat zS37).f4.f1), .int .i32 ((l3136.getD (0 : Int).toNat zS37).f4.f2), .int .i32 ((l3136.getD (0 : Int).toNat zS37).f4.f3), .int .i64 ((l3136.getD (0 : Int).toNat zS37).f5), .int .i64 ((l3136.getD (0 : Int).toNat zS37).f6), .int .u32 ((l3136.getD (0 : Int).toNat zS37).f7), .int .i64 ((l3136.getD (0 : Int).toNat zS37).f8)] :: Ass.box 37 g3168 [.int .i32 ((l3136.getD (0 : Int).toNat zS37).f0), .int .i64 ((l3136.getD (0 : Int).toNat zS37).f1), .int .i64 ((l3136.getD (0 : Int).toNat zS37).f2), .slice b3177.1 ((l3136.getD (0 : Int).toNat zS37).f3).length b3177.2, .int .i32 ((l3136.getD (0 : Int).toNat zS37).f4.f0), .int .i32 ((l3136.getD (0 : Int).toNat zS37).f4.f1), .int .i32 ((l3136.getD (0 : Int).toNat zS37).f4.f2), .int .i32 ((l3136.getD (0 : Int).toNat zS37).f4.f3), .int .i64 ((l3136.getD (0 : Int).toNat zS37).f5), .int .i64 ((l3136.getD (0 : Int).toNat zS37).f6), .int .u32 ((l3136.getD (0 : Int).toNat zS37).f7), .int .i64 ((l3136.getD (0 : Int).toNat zS37).f8)] :: Ass.box 32 g3134 [.int .i64 a3135, .slice A3185 l3184.length C3186] :: os) hS 1 rfl 37 0 (.agg #[.int .i32 ((l3136.getD (0 : Int).toNat zS37).f0), .int .i64 ((l3136.getD (0 : Int).toNat zS37).f1), .int .i64 ((l3136.getD (0 : Int).toNat zS37).f2), .slice b3177.1 ((l3136.getD (0 : Int).toNat zS37).f3).length b3177.2, .int .i32 ((l3136.getD (0 : Int).toNat zS37).f4.f0), .int .i32 ((l3136.getD (0 : Int).toNat zS37).f4.f1), .int .i32 ((l3136.getD (0 : Int).toNat zS37).f4.f2), .int .i32 ((l3136.getD (0 : Int).toNat zS37).f4.f3), .int .i64 ((l3136.getD (0 : Int).toNat zS37).f5), .int .i64 ((l3136.getD (0 : Int).toNat zS37).f6), .int .u32 ((l3136.getD (0 : Int).toNat zS37).f7), .int .i64 ((l3136.getD (0 : Int).toNat zS37).f8)]) [.int .i32 ((l3136.getD (0 : Int).toNat zS37).f0), .int .i64 ((l3136.getD (0 : Int).toNat zS37).f1), .int .i64 ((l3136.getD (0 : Int).toNat zS37).f2), .slice b3177.1 ((l3136.getD (0 : Int).toNat zS37).f3).length b3177.2, .int .i32 ((l3136.getD (0 : Int).toNat zS37).f4.f0), .int .i32 ((l3136.getD (0 : Int).toNat zS37).f4.f1), .int .i32 ((l3136.getD (0 : Int).toNat zS37).f4.f2), .int .i32 ((l3136.getD (0 : Int).toNat zS37).f4.f3), .int .i64 ((l3136.getD (0 : Int).toNat zS37).f5), .int .i64 ((l3136.getD (0 : Int).toNat zS37).f6), .int .u32 ((l3136.getD (0 : Int).toNat zS37).f7), .int .i64 ((l3136.getD (0 : Int).toNat zS37).f8)] (by kernel_rfl) (by kernel_rfl) (by kernel_rfl) (by kernel_rfl) (by kernel_rfl) (by kernel_rfl) rfl rfl ?_)
    intro w hS
    refine EL.quick 1 [2, 3] [(2, .pointer (some ⟨g3168, 0, none⟩)), (3, .bool (true))] (by kernel_rfl) ?_
    refine EL.done (by kernel_rfl) ?_
    refine EQ.code ?_
    refine EW.ret (by kernel_rfl) ?_
    simp only [Option.some.injEq, Prod.mk.injEq] at H
    obtain ⟨rfl, rfl, rfl, rfl⟩ := H
    exact EQ.leave2 hS (.cell 2 37) (.tmp 3) (.agg #[.int .i32 ((l3136.getD (0 : Int).toNat zS37).f0), .int .i64 ((l3136.getD (0 : Int).toNat zS37).f1), .int .i64 ((l3136.getD (0 : Int).toNat zS37).f2), .slice b3177.1 ((l3136.getD (0 : Int).toNat zS37).f3).length b3177.2, .int .i32 ((l3136.getD (0 : Int).toNat zS37).f4.f0), .int .i32 ((l3136.getD (0 : Int).toNat zS37).f4.f1), .int .i32 ((l3136.getD (0 : Int).toNat zS37).f4.f2), .int .i32 ((l3136.getD (0 : Int).toNat zS37).f4.f3), .int .i64 ((l3136.getD (0 : Int).toNat zS37).f5), .int .i64 ((l3136.getD (0 : Int).toNat zS37).f6), .int .u32 ((l3136.getD (0 : Int).toNat zS37).f7), .int .i64 ((l3136.getD (0 : Int).toNat zS37).f8)]) (.bool (true)) (by kernel_rfl) ⟨1, 37, g3168, [.int .i32 ((l3136.getD (0 : Int).toNat zS37).f0), .int .i64 ((l3136.getD (0 : Int).toNat zS37).f1), .int .i64 ((l3136.getD (0 : Int).toNat zS37).f2), .slice b3177.1 ((l3136.getD (0 : Int).toNat zS37).f3).length b3177.2, .int .i32 ((l3136.getD (0 : Int).toNat zS37).f4.f0), .int .i32 ((l3136.getD (0 : Int).toNat zS37).f4.f1), .int .i32 ((l3136.getD (0 : Int).toNat zS37).f4.f2), .int .i32 ((l3136.getD (0 : Int).toNat zS37).f4.f3), .int .i64 ((l3136.getD (0 : Int).toNat zS37).f5), .int .i64 ((l3136.getD (0 : Int).toNat zS37).f6), .int .u32 ((l3136.getD (0 : Int).toNat zS37).f7), .int .i64 ((l3136.getD (0 : Int).toNat zS37).f8)], 0, 12, rfl, (by kernel_rfl), (by kernel_rfl)⟩ (oneTmp (by kernel_rfl)) ⟨_, rfl, A3185, C3186, b3177.1, b3177.2, rfl, (hS.re [2] [1, 1] rfl (sub_cons 0 rfl (sub_cons 1 rfl (sub_tail (sub_tail (sub_self))))))⟩

/-! ### (*confidant/confidantref15.Ring).Half: function 28 -/
def confidantref15_Ring_Half.f (K : Nat) (a3228 : Int) (l3229 : List S37) : Option (Int × List S37 × List S37) := lt (IntKind.i64.wrap (Int.tdiv (IntKind.i64.wrap ((l3229.length : Int) + 1)) 2)) fun y3263 => (if 0 ≤ y3263 then (if y3263 ≤ (l3229.length : Int) then (lt (l3229.take y3263.toNat) fun l3275 => (if (([] : List S37).length + l3275.length) * 96 ≤ 140737488355328 then (lt (([] : List S37) ++ l3275) fun l3279 => (lt (l3229.drop y3263.toNat) fun l3282 => (some (a3228, l3282, l3279)))) else none)) else none) else none)
set_option maxRecDepth 100000 in
theorem confidantref15_Ring_Half.calls {K : Nat} {a3228 : Int} {l3229 : List S37} {g3227 : Nat} {A3230 : Option Addr} {C3231 : Nat} {x3255 : Int} {x3256 : List S37} {x3259 : List S37} {B w : World} {os : List Ass} {rs : List Ro} (H : confidantref15_Ring_Half.f K a3228 l3229 = some (x3255, x3256, x3259)) (hS : St B w (Ass.box 32 g3227 [.int .i64 a3228, .slice A3230 l3229.length C3231] :: os) (Ro.sl kS37 A3230 C3231 l3229 :: rs)) :
    Calls Try.prog 28 [.pointer (some ⟨g3227, 0, none⟩)].toArray w (fun en w' => ∃ v, en = .returned v ∧ ∃ A3257 : Option Addr, ∃ C3258 : Nat, ∃ A3260 : Option Addr, ∃ C3261 : Nat, v = .slice A3260 x3259.length C3261 ∧ St B w' (Ass.box 32 g3227 [.int .i64 x3255, .slice A3257 x3256.length C3258] :: Ass.own 37 kS37 A3260 C3261 x3259 :: os) (Ro.sl kS37 A3257 C3258 x3256 :: Ro.sl kS37 A3230 C3231 l3229 :: rs)) := by
  unfold confidantref15_Ring_Half.f at H
  refine calls_of_EW (args := [.pointer (some ⟨g3227, 0, none⟩)]) (c := Cd28) 29 Try.func28 (by kernel_rfl) (by kernel_rfl) (by kernel_rfl) ?_
  refine EW.seq (x := Cd28.l) (y := Cd28.r) (by kernel_rfl) ?_
  refine EW.region (id := 0) (ops := Cd28.l.ops) (by kernel_rfl) ?_
  refine EL.quick 1 [0] [(0, .pointer (some ⟨g3227, 0, none⟩))] (by kernel_rfl) ?_
  refine EL.done (by kernel_rfl) ?_
  refine EQ.code ?_
  refine EW.seq (x := Cd28.r.l) (y := Cd28.r.r) (by kernel_rfl) ?_
  refine EW.region (id := 1) (ops := Cd28.r.l.ops) (by kernel_rfl) ?_
  refine EL.quick 3 [0, 7] [(0, .pointer (some ⟨g3227, 0, none⟩)), (7, .pointer (some ⟨g3227, 1, none⟩))] (by kernel_rfl) ?_
  refine EL.of (EO.Y (YO.loadBox hS 0 rfl 30 1 1 (.slice A3230 l3229.length C3231) 8 (by kernel_rfl) (by kernel_rfl) (by kernel_rfl) (by kernel_rfl)) ?_)
  refine EL.quick 4 [0, 3] [(0, .pointer (some ⟨g3227, 0, none⟩)), (3, .int .i64 (IntKind.i64.wrap (Int.tdiv (IntKind.i64.wrap ((l3229.length : Int) + 1)) 2)))] (by kernel_rfl) ?_
  obtain ⟨y3263, hy3263, H⟩ := lt_out H
  refine EL.keep [0, 3] [(0, .pointer (some ⟨g3227, 0, none⟩)), (3, .int .i64 (IntKind.i64.wrap (Int.tdiv (IntKind.i64.wrap ((l3229.length : Int) + 1)) 2)))] (by kernel_rfl) ?_
  refine EL.as' [(0, .pointer (some ⟨g3227, 0, none⟩)), (3, .int .i64 y3263)] (by subst hy3263; rfl) ?_
  refine EL.done (by kernel_rfl) ?_
  refine EQ.code ?_
  refine EW.seq (x := Cd28.r.r.l) (y := Cd28.r.r.r) (by kernel_rfl) ?_
  refine EW.region (id := 2) (ops := Cd28.r.r.l.ops) (by kernel_rfl) ?_
  refine EL.quick 3 [0, 3, 14] [(0, .pointer (some ⟨g3227, 0, none⟩)), (3, .int .i64 y3263), (14, .pointer (some ⟨g3227, 1, none⟩))] (by kernel_rfl) ?_
  refine EL.of (EO.Y (YO.loadBox hS 0 rfl 30 1 1 (.slice A3230 l3229.length C3231) 15 (by kernel_rfl) (by kernel_rfl) (by kernel_rfl) (by kernel_rfl)) ?_)
  refine EL.quick 1 [0, 3, 15, 16] [(0, .pointer (some ⟨g3227, 0, none⟩)), (3, .int .i64 y3263), (15, .slice A3230 l3229.length C3231), (16, .int .i64 y3263)] (by kernel_rfl) ?_
  obtain ⟨h3273, H⟩ := ite_in H
  obtain ⟨h3274, H⟩ := ite_in H
  obtain ⟨l3275, hl3275, H⟩ := lt_out H
  refine EL.of (EO.sliceRo hS kS37 A3230 C3231 l3229 0 rfl none (some (.int .i64 y3263)) none 0 y3263.toNat C3231 l3275 (by rw [hl3275]; exact (slice_hi _ _)) 30 17 (by kernel_rfl) (by kernel_rfl) (by kernel_rfl) (by kernel_rfl) (rfl) ((Int.toNat_of_nonneg (by omega)).symm) ⟨rfl, fun h => by first | rfl | cases h⟩ (by omega) (by omega) (.inl rfl) ?_)
  intro A3276 C3277 hS
  have hS := St.nilO hS 37 kS37
  obtain ⟨h3278, H⟩ := ite_in H
  obtain ⟨l3279, hl3279, H⟩ := lt_out H
  refine EL.of (EO.append hS 30 30 37 96 0 kS37 none 0 ([] : List S37) rfl A3276 C3277 l3275 (Rd.ro 0 rfl) l3279 hl3279 (fun A3280 C3281 => Ass.own 37 kS37 A3280 C3281 l3279 :: Ass.box 32 g3227 [.int .i64 a3228, .slice A3230 l3229.length C3231] :: os) 18 (by kernel_rfl) (by kernel_rfl) (by kernel_rfl) (by kernel_rfl) h3278 (fun _ _ => rfl) ?_)
  intro A3280 C3281 w hS
  refine EL.quick 1 [0, 3, 4] [(0, .pointer (some ⟨g3227, 0, none⟩)), (3, .int .i64 y3263), (4, .slice A3280 l3279.length C3281)] (by kernel_rfl) ?_
  refine EL.done (by kernel_rfl) ?_
  refine EQ.code ?_
  refine EW.seq (x := Cd28.r.r.r.l) (y := Cd28.r.r.r.r) (by kernel_rfl) ?_
  refine EW.region (id := 3) (ops := Cd28.r.r.r.l.ops) (by kernel_rfl) ?_
  refine EL.quick 4 [3, 4, 19, 22] [(3, .int .i64 y3263), (4, .slice A3280 l3279.length C3281), (19, .pointer (some ⟨g3227, 0, none⟩)), (22, .pointer (some ⟨g3227, 1, none⟩))] (by kernel_rfl) ?_
  refine EL.of (EO.Y (YO.loadBox hS 1 rfl 30 1 1 (.slice A3230 l3229.length C3231) 23 (by kernel_rfl) (by kernel_rfl) (by kernel_rfl) (by kernel_rfl)) ?_)
  refine EL.quick 1 [4, 19, 23, 24] [(4, .slice A3280 l3279.length C3281), (19, .pointer (some ⟨g3227, 0, none⟩)), (23, .slice A3230 l3229.length C3231), (24, .int .i64 y3263)] (by kernel_rfl) ?_
  obtain ⟨l3282, hl3282, H⟩ := lt_out H
  refine EL.of (EO.sliceRo hS kS37 A3230 C3231 l3229 1 rfl (some (.int .i64 y3263)) none none y3263.toNat l3229.length C3231 l3282 (by rw [hl3282]; exact (slice_lo _ _)) 30 25 (by kernel_rfl) (by kernel_rfl) (by kernel_rfl) (by kernel_rfl) ((Int.toNat_of_nonneg (by omega)).symm) (rfl) ⟨rfl, fun h => by first | rfl | cases h⟩ (by omega) (by omega) (.inl rfl) ?_)
  intro A3283 C3284 hS
  refine EL.quick 2 [4, 25, 27] [(4, .slice A3280 l3279.length C3281), (25, .slice A3283 l3282.length C3284), (27, .pointer (some ⟨g3227, 1, none⟩))] (by kernel_rfl) ?_
  refine EL.of (EO.storeBox (os' := Ass.own 37 kS37 A3280 C3281 l3279 :: Ass.box 32 g3227 [.int .i64 a3228, .slice A3283 l3282.length C3284] :: os) hS 1 rfl 30 1 (.slice A3283 l3282.length C3284) [.int .i64 a3228, .slice A3283 l3282.length C3284] (by kernel_rfl) (by kernel_rfl) (by kernel_rfl) (by kernel_rfl) (by kernel_rfl) (by kernel_rfl) rfl rfl ?_)
  intro w hS
  refine EL.done (by kernel_rfl) ?_
  refine EQ.code ?_
  refine EW.seq (x := Cd28.r.r.r.r.l) (y := Cd28.r.r.r.r.r) (by kernel_rfl) ?_
  refine EW.region (id := 4) (ops := Cd28.r.r.r.r.l.ops) (by kernel_rfl) ?_
  refine EL.quick 2 [2] [(2, .slice A3280 l3279.length C3281)] (by kernel_rfl) ?_
  refine EL.done (by kernel_rfl) ?_
  refine EQ.code ?_
  refine EW.ret (by kernel_rfl) ?_
  simp only [Option.some.injEq, Prod.mk.injEq] at H
  obtain ⟨rfl, rfl, rfl⟩ := H
  exact EQ.leave (.slice A3280 l3279.length C3281) (by kernel_rfl) ⟨_, rfl, A3283, C3284, A3280, C3281, rfl, (hS.re [0, 1] [] rfl (sub_cons 0 rfl (sub_tail (sub_tail (sub_self)))))⟩

end Go.Proofs.Ytjfnejcanlkknaa.G
