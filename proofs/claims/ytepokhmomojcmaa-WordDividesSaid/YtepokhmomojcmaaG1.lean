import Derived.Test.YtepokhmomojcmaaG0
namespace Go.Proofs.Ytepokhmomojcmaa.G
open Go Go.Fw Go.RowKit Go.Proofs
set_option linter.unusedVariables false
set_option linter.unusedSimpArgs false

/-! ### confidant/word.Sub: function 33 -/
def word_Sub.f (K : Nat) (a50 : Int) (a51 : Int) : Option Int := b1 (word_num_sub.f K a50 a51) fun (t62 : Int) => (some t62)
set_option maxRecDepth 100000 in
theorem word_Sub.calls {K : Nat} {a50 : Int} {a51 : Int} {x59 : Int} {B w : World} {os : List Ass} {rs : List Ro} (H : word_Sub.f K a50 a51 = some x59) (hS : St B w (os) (rs)) :
    Calls Try.prog 33 [.int .i32 a50, .int .i32 a51].toArray w (fun en w' => ∃ v, en = .returned v ∧ v = .int .i32 x59 ∧ St B w' (os) (rs)) := by
  unfold word_Sub.f at H
  refine calls_of_EW (args := [.int .i32 a50, .int .i32 a51]) (c := C33) 8 Try.func33 (by kernel_rfl) (by kernel_rfl) (by kernel_rfl) ?_
  refine EW.seq (x := C33.l) (y := C33.r) (by kernel_rfl) ?_
  refine EW.region (id := 0) (ops := C33.l.ops) (by kernel_rfl) ?_
  refine EL.quick 1 [0, 1] [(0, .int .i32 a50), (1, .int .i32 a51)] (by kernel_rfl) ?_
  refine EL.done (by kernel_rfl) ?_
  refine EQ.code ?_
  refine EW.seq (x := C33.r.l) (y := C33.r.r) (by kernel_rfl) ?_
  refine EW.region (id := 1) (ops := C33.r.l.ops) (by kernel_rfl) ?_
  refine EL.quick 2 [5, 6] [(5, .int .i32 a50), (6, .int .i32 a51)] (by kernel_rfl) ?_
  refine EL.inline 46 [.func (.func 48) #[] #[], .int .i32 a50, .int .i32 a51] 7 (by kernel_rfl) (by kernel_rfl) (by kernel_rfl) ?_
  refine calls_of_EW (args := [.func (.func 48) #[] #[], .int .i32 a50, .int .i32 a51]) (c := C46) 11 Try.func46 (by kernel_rfl) (by kernel_rfl) (by kernel_rfl) ?_
  refine EW.seq (x := C46.l) (y := C46.r) (by kernel_rfl) ?_
  refine EW.region (id := 0) (ops := C46.l.ops) (by kernel_rfl) ?_
  refine EL.quick 1 [0, 1, 2] [(0, .func (.func 48) #[] #[]), (1, .int .i32 a50), (2, .int .i32 a51)] (by kernel_rfl) ?_
  refine EL.done (by kernel_rfl) ?_
  refine EQ.code ?_
  refine EW.seq (x := C46.r.l) (y := C46.r.r) (by kernel_rfl) ?_
  refine EW.region (id := 1) (ops := C46.r.l.ops) (by kernel_rfl) ?_
  refine EL.quick 3 [7, 8, 9] [(7, .func (.func 48) #[] #[]), (8, .int .i32 a50), (9, .int .i32 a51)] (by kernel_rfl) ?_
  obtain ⟨t62, hc63, H⟩ := b1_out H
  refine EL.callD 48 [.int .i32 a50, .int .i32 a51] _ 10 (by kernel_rfl) (by kernel_rfl) (by kernel_rfl) (word_num_sub.calls hc63 hS) ?_
  rintro v w ⟨rfl, hS⟩
  refine EL.quick 1 [6] [(6, .int .i32 t62)] (by kernel_rfl) ?_
  refine EL.done (by kernel_rfl) ?_
  refine EQ.code ?_
  refine EW.ret (by kernel_rfl) ?_
  refine EQ.leave (.int .i32 t62) (by kernel_rfl) ⟨_, rfl, ?_⟩
  refine EL.quick 1 [4] [(4, .int .i32 t62)] (by kernel_rfl) ?_
  refine EL.done (by kernel_rfl) ?_
  refine EQ.code ?_
  refine EW.ret (by kernel_rfl) ?_
  obtain rfl := Option.some.inj H
  exact EQ.leave (.int .i32 t62) (by kernel_rfl) ⟨_, rfl, rfl, (hS.re [] [] rfl (sub_self))⟩

/-! ### (confidant/word.num).mul: function 49 -/
def word_num_mul.f (K : Nat) (a69 : Int) (a70 : Int) : Option Int := some (IntKind.i32.wrap (a69 * a70))
set_option maxRecDepth 100000 in
theorem word_num_mul.calls {K : Nat} {a69 : Int} {a70 : Int} {x71 : Int} {B w : World} {os : List Ass} {rs : List Ro} (H : word_num_mul.f K a69 a70 = some x71) (hS : St B w (os) (rs)) :
    Calls Try.prog 49 [.int .i32 a69, .int .i32 a70].toArray w (fun en w' => ∃ v, en = .returned v ∧ v = .int .i32 x71 ∧ St B w' (os) (rs)) := by
  unfold word_num_mul.f at H
  refine calls_of_EW (args := [.int .i32 a69, .int .i32 a70]) (c := C49) 8 Try.func49 (by kernel_rfl) (by kernel_rfl) (by kernel_rfl) ?_
  refine EW.seq (x := C49.l) (y := C49.r) (by kernel_rfl) ?_
  refine EW.region (id := 0) (ops := C49.l.ops) (by kernel_rfl) ?_
  refine EL.quick 1 [0, 1] [(0, .int .i32 a69), (1, .int .i32 a70)] (by kernel_rfl) ?_
  refine EL.done (by kernel_rfl) ?_
  refine EQ.code ?_
  refine EW.seq (x := C49.r.l) (y := C49.r.r) (by kernel_rfl) ?_
  refine EW.region (id := 1) (ops := C49.r.l.ops) (by kernel_rfl) ?_
  refine EL.quick 4 [4] [(4, .int .i32 (IntKind.i32.wrap (a69 * a70)))] (by kernel_rfl) ?_
  refine EL.done (by kernel_rfl) ?_
  refine EQ.code ?_
  refine EW.ret (by kernel_rfl) ?_
  obtain rfl := Option.some.inj H
  exact EQ.leave (.int .i32 (IntKind.i32.wrap (a69 * a70))) (by kernel_rfl) ⟨_, rfl, rfl, (hS.re [] [] rfl (sub_self))⟩

/-! ### confidant/word.Mul: function 34 -/
def word_Mul.f (K : Nat) (a67 : Int) (a68 : Int) : Option Int := b1 (word_num_mul.f K a67 a68) fun (t79 : Int) => (some t79)
set_option maxRecDepth 100000 in
theorem word_Mul.calls {K : Nat} {a67 : Int} {a68 : Int} {x76 : Int} {B w : World} {os : List Ass} {rs : List Ro} (H : word_Mul.f K a67 a68 = some x76) (hS : St B w (os) (rs)) :
    Calls Try.prog 34 [.int .i32 a67, .int .i32 a68].toArray w (fun en w' => ∃ v, en = .returned v ∧ v = .int .i32 x76 ∧ St B w' (os) (rs)) := by
  unfold word_Mul.f at H
  refine calls_of_EW (args := [.int .i32 a67, .int .i32 a68]) (c := C34) 8 Try.func34 (by kernel_rfl) (by kernel_rfl) (by kernel_rfl) ?_
  refine EW.seq (x := C34.l) (y := C34.r) (by kernel_rfl) ?_
  refine EW.region (id := 0) (ops := C34.l.ops) (by kernel_rfl) ?_
  refine EL.quick 1 [0, 1] [(0, .int .i32 a67), (1, .int .i32 a68)] (by kernel_rfl) ?_
  refine EL.done (by kernel_rfl) ?_
  refine EQ.code ?_
  refine EW.seq (x := C34.r.l) (y := C34.r.r) (by kernel_rfl) ?_
  refine EW.region (id := 1) (ops := C34.r.l.ops) (by kernel_rfl) ?_
  refine EL.quick 2 [5, 6] [(5, .int .i32 a67), (6, .int .i32 a68)] (by kernel_rfl) ?_
  refine EL.inline 46 [.func (.func 49) #[] #[], .int .i32 a67, .int .i32 a68] 7 (by kernel_rfl) (by kernel_rfl) (by kernel_rfl) ?_
  refine calls_of_EW (args := [.func (.func 49) #[] #[], .int .i32 a67, .int .i32 a68]) (c := C46) 11 Try.func46 (by kernel_rfl) (by kernel_rfl) (by kernel_rfl) ?_
  refine EW.seq (x := C46.l) (y := C46.r) (by kernel_rfl) ?_
  refine EW.region (id := 0) (ops := C46.l.ops) (by kernel_rfl) ?_
  refine EL.quick 1 [0, 1, 2] [(0, .func (.func 49) #[] #[]), (1, .int .i32 a67), (2, .int .i32 a68)] (by kernel_rfl) ?_
  refine EL.done (by kernel_rfl) ?_
  refine EQ.code ?_
  refine EW.seq (x := C46.r.l) (y := C46.r.r) (by kernel_rfl) ?_
  refine EW.region (id := 1) (ops := C46.r.l.ops) (by kernel_rfl) ?_
  refine EL.quick 3 [7, 8, 9] [(7, .func (.func 49) #[] #[]), (8, .int .i32 a67), (9, .int .i32 a68)] (by kernel_rfl) ?_
  obtain ⟨t79, hc80, H⟩ := b1_out H
  refine EL.callD 49 [.int .i32 a67, .int .i32 a68] _ 10 (by kernel_rfl) (by kernel_rfl) (by kernel_rfl) (word_num_mul.calls hc80 hS) ?_
  rintro v w ⟨rfl, hS⟩
  refine EL.quick 1 [6] [(6, .int .i32 t79)] (by kernel_rfl) ?_
  refine EL.done (by kernel_rfl) ?_
  refine EQ.code ?_
  refine EW.ret (by kernel_rfl) ?_
  refine EQ.leave (.int .i32 t79) (by kernel_rfl) ⟨_, rfl, ?_⟩
  refine EL.quick 1 [4] [(4, .int .i32 t79)] (by kernel_rfl) ?_
  refine EL.done (by kernel_rfl) ?_
  refine EQ.code ?_
  refine EW.ret (by kernel_rfl) ?_
  obtain rfl := Option.some.inj H
  exact EQ.leave (.int .i32 t79) (by kernel_rfl) ⟨_, rfl, rfl, (hS.re [] [] rfl (sub_self))⟩

/-! ### confidant/word.truth: function 53 -/
def word_truth.f (K : Nat) (a93 : Bool) : Option Int := if a93 = true then (some 1) else (some 0)
set_option maxRecDepth 100000 in
theorem word_truth.calls {K : Nat} {a93 : Bool} {x95 : Int} {B w : World} {os : List Ass} {rs : List Ro} (H : word_truth.f K a93 = some x95) (hS : St B w (os) (rs)) :
    Calls Try.prog 53 [.bool (a93)].toArray w (fun en w' => ∃ v, en = .returned v ∧ v = .int .i32 x95 ∧ St B w' (os) (rs)) := by
  unfold word_truth.f at H
  refine calls_of_EW (args := [.bool (a93)]) (c := C53) 4 Try.func53 (by kernel_rfl) (by kernel_rfl) (by kernel_rfl) ?_
  refine EW.seq (x := C53.l) (y := C53.r) (by kernel_rfl) ?_
  refine EW.region (id := 0) (ops := C53.l.ops) (by kernel_rfl) ?_
  refine EL.quick 1 [0] [(0, .bool (a93))] (by kernel_rfl) ?_
  refine EL.done (by kernel_rfl) ?_
  refine EQ.code ?_
  refine EW.seq (x := C53.r.l) (y := C53.r.r) (by kernel_rfl) ?_
  refine EW.seq (x := C53.r.l.l) (y := C53.r.l.r) (by kernel_rfl) ?_
  refine EW.region (id := 1) (ops := C53.r.l.l.ops) (by kernel_rfl) ?_
  refine EL.quick 1 [3] [(3, .bool (a93))] (by kernel_rfl) ?_
  refine EL.done (by kernel_rfl) ?_
  refine EQ.code ?_
  refine EW.condP' (o := (.tmp 3)) (x := C53.r.l.r.l) (y := C53.r.l.r.r) (a93) (by kernel_rfl) (by kernel_rfl) (fun h96 => ?_) (fun h96 => ?_)
  · rw [if_pos h96] at H
    refine EW.seq (x := C53.r.l.r.l.l) (y := C53.r.l.r.l.r) (by kernel_rfl) ?_
    refine EW.region (id := 2) (ops := C53.r.l.r.l.l.ops) (by kernel_rfl) ?_
    refine EL.quick 1 [2] [(2, .int .i32 1)] (by kernel_rfl) ?_
    refine EL.done (by kernel_rfl) ?_
    refine EQ.code ?_
    refine EW.ret (by kernel_rfl) ?_
    refine EQ.ret ?_
    obtain rfl := Option.some.inj H
    exact EQ.leave (.int .i32 1) (by kernel_rfl) ⟨_, rfl, rfl, (hS.re [] [] rfl (sub_self))⟩
  · rw [if_neg h96] at H
    refine EW.skip (by kernel_rfl) ?_
    refine EQ.code ?_
    refine EW.seq (x := C53.r.r.l) (y := C53.r.r.r) (by kernel_rfl) ?_
    refine EW.region (id := 3) (ops := C53.r.r.l.ops) (by kernel_rfl) ?_
    refine EL.quick 1 [2] [(2, .int .i32 0)] (by kernel_rfl) ?_
    refine EL.done (by kernel_rfl) ?_
    refine EQ.code ?_
    refine EW.ret (by kernel_rfl) ?_
    obtain rfl := Option.some.inj H
    exact EQ.leave (.int .i32 0) (by kernel_rfl) ⟨_, rfl, rfl, (hS.re [] [] rfl (sub_self))⟩

/-! ### (confidant/word.num).less: function 50 -/
def word_num_less.f (K : Nat) (a91 : Int) (a92 : Int) : Option Int := b1 (word_truth.f K (decide (a91 < a92))) fun (t100 : Int) => (some t100)
set_option maxRecDepth 100000 in
theorem word_num_less.calls {K : Nat} {a91 : Int} {a92 : Int} {x99 : Int} {B w : World} {os : List Ass} {rs : List Ro} (H : word_num_less.f K a91 a92 = some x99) (hS : St B w (os) (rs)) :
    Calls Try.prog 50 [.int .i32 a91, .int .i32 a92].toArray w (fun en w' => ∃ v, en = .returned v ∧ v = .int .i32 x99 ∧ St B w' (os) (rs)) := by
  unfold word_num_less.f at H
  refine calls_of_EW (args := [.int .i32 a91, .int .i32 a92]) (c := C50) 9 Try.func50 (by kernel_rfl) (by kernel_rfl) (by kernel_rfl) ?_
  refine EW.seq (x := C50.l) (y := C50.r) (by kernel_rfl) ?_
  refine EW.region (id := 0) (ops := C50.l.ops) (by kernel_rfl) ?_
  refine EL.quick 1 [0, 1] [(0, .int .i32 a91), (1, .int .i32 a92)] (by kernel_rfl) ?_
  refine EL.done (by kernel_rfl) ?_
  refine EQ.code ?_
  refine EW.seq (x := C50.r.l) (y := C50.r.r) (by kernel_rfl) ?_
  refine EW.region (id := 1) (ops := C50.r.l.ops) (by kernel_rfl) ?_
  refine EL.quick 3 [7] [(7, .bool (decide (a91 < a92)))] (by kernel_rfl) ?_
  obtain ⟨t100, hc101, H⟩ := b1_out H
  refine EL.callD 53 [.bool (decide (a91 < a92))] _ 8 (by kernel_rfl) (by kernel_rfl) (by kernel_rfl) (word_truth.calls hc101 hS) ?_
  rintro v w ⟨rfl, hS⟩
  refine EL.quick 1 [4] [(4, .int .i32 t100)] (by kernel_rfl) ?_
  refine EL.done (by kernel_rfl) ?_
  refine EQ.code ?_
  refine EW.ret (by kernel_rfl) ?_
  obtain rfl := Option.some.inj H
  exact EQ.leave (.int .i32 t100) (by kernel_rfl) ⟨_, rfl, rfl, (hS.re [] [] rfl (sub_self))⟩

/-! ### confidant/word.Less: function 35 -/
def word_Less.f (K : Nat) (a89 : Int) (a90 : Int) : Option Int := b1 (word_num_less.f K a89 a90) fun (t109 : Int) => (some t109)
set_option maxRecDepth 100000 in
theorem word_Less.calls {K : Nat} {a89 : Int} {a90 : Int} {x106 : Int} {B w : World} {os : List Ass} {rs : List Ro} (H : word_Less.f K a89 a90 = some x106) (hS : St B w (os) (rs)) :
    Calls Try.prog 35 [.int .i32 a89, .int .i32 a90].toArray w (fun en w' => ∃ v, en = .returned v ∧ v = .int .i32 x106 ∧ St B w' (os) (rs)) := by
  unfold word_Less.f at H
  refine calls_of_EW (args := [.int .i32 a89, .int .i32 a90]) (c := C35) 8 Try.func35 (by kernel_rfl) (by kernel_rfl) (by kernel_rfl) ?_
  refine EW.seq (x := C35.l) (y := C35.r) (by kernel_rfl) ?_
  refine EW.region (id := 0) (ops := C35.l.ops) (by kernel_rfl) ?_
  refine EL.quick 1 [0, 1] [(0, .int .i32 a89), (1, .int .i32 a90)] (by kernel_rfl) ?_
  refine EL.done (by kernel_rfl) ?_
  refine EQ.code ?_
  refine EW.seq (x := C35.r.l) (y := C35.r.r) (by kernel_rfl) ?_
  refine EW.region (id := 1) (ops := C35.r.l.ops) (by kernel_rfl) ?_
  refine EL.quick 2 [5, 6] [(5, .int .i32 a89), (6, .int .i32 a90)] (by kernel_rfl) ?_
  refine EL.inline 46 [.func (.func 50) #[] #[], .int .i32 a89, .int .i32 a90] 7 (by kernel_rfl) (by kernel_rfl) (by kernel_rfl) ?_
  refine calls_of_EW (args := [.func (.func 50) #[] #[], .int .i32 a89, .int .i32 a90]) (c := C46) 11 Try.func46 (by kernel_rfl) (by kernel_rfl) (by kernel_rfl) ?_
  refine EW.seq (x := C46.l) (y := C46.r) (by kernel_rfl) ?_
  refine EW.region (id := 0) (ops := C46.l.ops) (by kernel_rfl) ?_
  refine EL.quick 1 [0, 1, 2] [(0, .func (.func 50) #[] #[]), (1, .int .i32 a89), (2, .int .i32 a90)] (by kernel_rfl) ?_
  refine EL.done (by kernel_rfl) ?_
  refine EQ.code ?_
  refine EW.seq (x := C46.r.l) (y := C46.r.r) (by kernel_rfl) ?_
  refine EW.region (id := 1) (ops := C46.r.l.ops) (by kernel_rfl) ?_
  refine EL.quick 3 [7, 8, 9] [(7, .func (.func 50) #[] #[]), (8, .int .i32 a89), (9, .int .i32 a90)] (by kernel_rfl) ?_
  obtain ⟨t109, hc110, H⟩ := b1_out H
  refine EL.callD 50 [.int .i32 a89, .int .i32 a90] _ 10 (by kernel_rfl) (by kernel_rfl) (by kernel_rfl) (word_num_less.calls hc110 hS) ?_
  rintro v w ⟨rfl, hS⟩
  refine EL.quick 1 [6] [(6, .int .i32 t109)] (by kernel_rfl) ?_
  refine EL.done (by kernel_rfl) ?_
  refine EQ.code ?_
  refine EW.ret (by kernel_rfl) ?_
  refine EQ.leave (.int .i32 t109) (by kernel_rfl) ⟨_, rfl, ?_⟩
  refine EL.quick 1 [4] [(4, .int .i32 t109)] (by kernel_rfl) ?_
  refine EL.done (by kernel_rfl) ?_
  refine EQ.code ?_
  refine EW.ret (by kernel_rfl) ?_
  obtain rfl := Option.some.inj H
  exact EQ.leave (.int .i32 t109) (by kernel_rfl) ⟨_, rfl, rfl, (hS.re [] [] rfl (sub_self))⟩

/-! ### (confidant/word.num).eq: function 51 -/
def word_num_eq.f (K : Nat) (a116 : Int) (a117 : Int) : Option Int := b1 (word_truth.f K (decide (a116 = a117))) fun (t121 : Int) => (some t121)
set_option maxRecDepth 100000 in
theorem word_num_eq.calls {K : Nat} {a116 : Int} {a117 : Int} {x120 : Int} {B w : World} {os : List Ass} {rs : List Ro} (H : word_num_eq.f K a116 a117 = some x120) (hS : St B w (os) (rs)) :
    Calls Try.prog 51 [.int .i32 a116, .int .i32 a117].toArray w (fun en w' => ∃ v, en = .returned v ∧ v = .int .i32 x120 ∧ St B w' (os) (rs)) := by
  unfold word_num_eq.f at H
  refine calls_of_EW (args := [.int .i32 a116, .int .i32 a117]) (c := C51) 9 Try.func51 (by kernel_rfl) (by kernel_rfl) (by kernel_rfl) ?_
  refine EW.seq (x := C51.l) (y := C51.r) (by kernel_rfl) ?_
  refine EW.region (id := 0) (ops := C51.l.ops) (by kernel_rfl) ?_
  refine EL.quick 1 [0, 1] [(0, .int .i32 a116), (1, .int .i32 a117)] (by kernel_rfl) ?_
  refine EL.done (by kernel_rfl) ?_
  refine EQ.code ?_
  refine EW.seq (x := C51.r.l) (y := C51.r.r) (by kernel_rfl) ?_
  refine EW.region (id := 1) (ops := C51.r.l.ops) (by kernel_rfl) ?_
  refine EL.quick 3 [7] [(7, .bool (decide (a116 = a117)))] (by kernel_rfl) ?_
  obtain ⟨t121, hc122, H⟩ := b1_out H
  refine EL.callD 53 [.bool (decide (a116 = a117))] _ 8 (by kernel_rfl) (by kernel_rfl) (by kernel_rfl) (word_truth.calls hc122 hS) ?_
  rintro v w ⟨rfl, hS⟩
  refine EL.quick 1 [4] [(4, .int .i32 t121)] (by kernel_rfl) ?_
  refine EL.done (by kernel_rfl) ?_
  refine EQ.code ?_
  refine EW.ret (by kernel_rfl) ?_
  obtain rfl := Option.some.inj H
  exact EQ.leave (.int .i32 t121) (by kernel_rfl) ⟨_, rfl, rfl, (hS.re [] [] rfl (sub_self))⟩

/-! ### confidant/word.Eq: function 37 -/
def word_Eq.f (K : Nat) (a114 : Int) (a115 : Int) : Option Int := b1 (word_num_eq.f K a114 a115) fun (t130 : Int) => (some t130)
set_option maxRecDepth 100000 in
theorem word_Eq.calls {K : Nat} {a114 : Int} {a115 : Int} {x127 : Int} {B w : World} {os : List Ass} {rs : List Ro} (H : word_Eq.f K a114 a115 = some x127) (hS : St B w (os) (rs)) :
    Calls Try.prog 37 [.int .i32 a114, .int .i32 a115].toArray w (fun en w' => ∃ v, en = .returned v ∧ v = .int .i32 x127 ∧ St B w' (os) (rs)) := by
  unfold word_Eq.f at H
  refine calls_of_EW (args := [.int .i32 a114, .int .i32 a115]) (c := C37) 8 Try.func37 (by kernel_rfl) (by kernel_rfl) (by kernel_rfl) ?_
  refine EW.seq (x := C37.l) (y := C37.r) (by kernel_rfl) ?_
  refine EW.region (id := 0) (ops := C37.l.ops) (by kernel_rfl) ?_
  refine EL.quick 1 [0, 1] [(0, .int .i32 a114), (1, .int .i32 a115)] (by kernel_rfl) ?_
  refine EL.done (by kernel_rfl) ?_
  refine EQ.code ?_
  refine EW.seq (x := C37.r.l) (y := C37.r.r) (by kernel_rfl) ?_
  refine EW.region (id := 1) (ops := C37.r.l.ops) (by kernel_rfl) ?_
  refine EL.quick 2 [5, 6] [(5, .int .i32 a114), (6, .int .i32 a115)] (by kernel_rfl) ?_
  refine EL.inline 46 [.func (.func 51) #[] #[], .int .i32 a114, .int .i32 a115] 7 (by kernel_rfl) (by kernel_rfl) (by kernel_rfl) ?_
  refine calls_of_EW (args := [.func (.func 51) #[] #[], .int .i32 a114, .int .i32 a115]) (c := C46) 11 Try.func46 (by kernel_rfl) (by kernel_rfl) (by kernel_rfl) ?_
  refine EW.seq (x := C46.l) (y := C46.r) (by kernel_rfl) ?_
  refine EW.region (id := 0) (ops := C46.l.ops) (by kernel_rfl) ?_
  refine EL.quick 1 [0, 1, 2] [(0, .func (.func 51) #[] #[]), (1, .int .i32 a114), (2, .int .i32 a115)] (by kernel_rfl) ?_
  refine EL.done (by kernel_rfl) ?_
  refine EQ.code ?_
  refine EW.seq (x := C46.r.l) (y := C46.r.r) (by kernel_rfl) ?_
  refine EW.region (id := 1) (ops := C46.r.l.ops) (by kernel_rfl) ?_
  refine EL.quick 3 [7, 8, 9] [(7, .func (.func 51) #[] #[]), (8, .int .i32 a114), (9, .int .i32 a115)] (by kernel_rfl) ?_
  obtain ⟨t130, hc131, H⟩ := b1_out H
  refine EL.callD 51 [.int .i32 a114, .int .i32 a115] _ 10 (by kernel_rfl) (by kernel_rfl) (by kernel_rfl) (word_num_eq.calls hc131 hS) ?_
  rintro v w ⟨rfl, hS⟩
  refine EL.quick 1 [6] [(6, .int .i32 t130)] (by kernel_rfl) ?_
  refine EL.done (by kernel_rfl) ?_
  refine EQ.code ?_
  refine EW.ret (by kernel_rfl) ?_
  refine EQ.leave (.int .i32 t130) (by kernel_rfl) ⟨_, rfl, ?_⟩
  refine EL.quick 1 [4] [(4, .int .i32 t130)] (by kernel_rfl) ?_
  refine EL.done (by kernel_rfl) ?_
  refine EQ.code ?_
  refine EW.ret (by kernel_rfl) ?_
  obtain rfl := Option.some.inj H
  exact EQ.leave (.int .i32 t130) (by kernel_rfl) ⟨_, rfl, rfl, (hS.re [] [] rfl (sub_self))⟩

/-! ### confidant/confidantlaw9.known: function 29 -/
def confidantlaw9_known.f (K : Nat)  : Option Bool := b2 (word_Div.f K (-7) 2) fun (t138 : Int) (t139 : Bool) => (b2 (word_Div.f K 1 0) fun (t144 : Int) (t145 : Bool) => (b2 (word_Div.f K (-2147483648) (-1)) fun (t150 : Int) (t151 : Bool) => (b1 (word_Add.f K 2147483647 1) fun (t153 : Int) => (if t153 = (-2147483648) then (b1 (word_Sub.f K 1 2) fun (t156 : Int) => (if t156 = (-1) then (b1 (word_Mul.f K 3 (-4)) fun (t159 : Int) => (if t159 = (-12) then (if t139 = true then (if t138 = (-3) then (if t145 = true then (some false) else (if t151 = true then (if t150 = (-2147483648) then (b1 (word_Less.f K 1 2) fun (t167 : Int) => (if t167 = 1 then (b1 (word_Eq.f K 1 2) fun (t170 : Int) => (some (decide (t170 = 0)))) else (some false))) else (some false)) else (some false))) else (some false)) else (some false)) else (some false))) else (some false))) else (some false)))))
set_option maxRecDepth 100000 in
theorem confidantlaw9_known.calls {K : Nat} {x134 : Bool} {B w : World} {os : List Ass} {rs : List Ro} (H : confidantlaw9_known.f K = some x134) (hS : St B w (os) (rs)) :
    Calls Try.prog 29 [].toArray w (fun en w' => ∃ v, en = .returned v ∧ v = .bool (x134) ∧ St B w' (os) (rs)) := by
  unfold confidantlaw9_known.f at H
  refine calls_of_EW (args := []) (c := C29) 55 Try.func29 (by kernel_rfl) (by kernel_rfl) (by kernel_rfl) ?_
  refine EW.seq (x := C29.l) (y := C29.r) (by kernel_rfl) ?_
  refine EW.region (id := 0) (ops := C29.l.ops) (by kernel_rfl) ?_
  refine EL.quick 1 [] [] (by kernel_rfl) ?_
  refine EL.done (by kernel_rfl) ?_
  refine EQ.code ?_
  refine EW.seq (x := C29.r.l) (y := C29.r.r) (by kernel_rfl) ?_
  refine EW.region (id := 1) (ops := C29.r.l.ops) (by kernel_rfl) ?_
  obtain ⟨t138, t139, hc140, H⟩ := b2_out H
  refine EL.callD 30 [.int .i32 (-7), .int .i32 2] _ 8 (by kernel_rfl) (by kernel_rfl) (by kernel_rfl) (word_Div.calls hc140 hS) ?_
  rintro v w ⟨rfl, hS⟩
  refine EL.quick 5 [1, 2] [(1, .int .i32 t138), (2, .bool (t139))] (by kernel_rfl) ?_
  refine EL.done (by kernel_rfl) ?_
  refine EQ.code ?_
  refine EW.seq (x := C29.r.r.l) (y := C29.r.r.r) (by kernel_rfl) ?_
  refine EW.region (id := 2) (ops := C29.r.r.l.ops) (by kernel_rfl) ?_
  obtain ⟨t144, t145, hc146, H⟩ := b2_out H
  refine EL.callD 30 [.int .i32 1, .int .i32 0] _ 12 (by kernel_rfl) (by kernel_rfl) (by kernel_rfl) (word_Div.calls hc146 hS) ?_
  rintro v w ⟨rfl, hS⟩
  refine EL.quick 5 [1, 2, 4] [(1, .int .i32 t138), (2, .bool (t139)), (4, .bool (t145))] (by kernel_rfl) ?_
  refine EL.done (by kernel_rfl) ?_
  refine EQ.code ?_
  refine EW.seq (x := C29.r.r.r.l) (y := C29.r.r.r.r) (by kernel_rfl) ?_
  refine EW.region (id := 3) (ops := C29.r.r.r.l.ops) (by kernel_rfl) ?_
  obtain ⟨t150, t151, hc152, H⟩ := b2_out H
  refine EL.callD 30 [.int .i32 (-2147483648), .int .i32 (-1)] _ 16 (by kernel_rfl) (by kernel_rfl) (by kernel_rfl) (word_Div.calls hc152 hS) ?_
  rintro v w ⟨rfl, hS⟩
  refine EL.quick 5 [1, 2, 4, 5, 6] [(1, .int .i32 t138), (2, .bool (t139)), (4, .bool (t145)), (5, .int .i32 t150), (6, .bool (t151))] (by kernel_rfl) ?_
  refine EL.done (by kernel_rfl) ?_
  refine EQ.code ?_
  refine EW.seq (x := C29.r.r.r.r.l) (y := C29.r.r.r.r.r) (by kernel_rfl) ?_
  refine EW.region (id := 4) (ops := C29.r.r.r.r.l.ops) (by kernel_rfl) ?_
  obtain ⟨t153, hc154, H⟩ := b1_out H
  refine EL.callD 32 [.int .i32 2147483647, .int .i32 1] _ 19 (by kernel_rfl) (by kernel_rfl) (by kernel_rfl) (word_Add.calls hc154 hS) ?_
  rintro v w ⟨rfl, hS⟩
  refine EL.quick 2 [1, 2, 4, 5, 6, 21] [(1, .int .i32 t138), (2, .bool (t139)), (4, .bool (t145)), (5, .int .i32 t150), (6, .bool (t151)), (21, .bool (decide (t153 = (-2147483648))))] (by kernel_rfl) ?_
  by_cases h155 : t153 = (-2147483648)
  · rw [if_pos h155] at H
    refine EL.keep [1, 2, 4, 5, 6, 21] [(1, .int .i32 t138), (2, .bool (t139)), (4, .bool (t145)), (5, .int .i32 t150), (6, .bool (t151)), (21, .bool (decide (t153 = (-2147483648))))] (by kernel_rfl) ?_
    refine EL.as' [(1, .int .i32 t138), (2, .bool (t139)), (4, .bool (t145)), (5, .int .i32 t150), (6, .bool (t151)), (21, .bool (true))] (by simp only [dec_t h155, Bool.not_true, Bool.not_false]) ?_
    obtain ⟨t156, hc157, H⟩ := b1_out H
    refine EL.callD 33 [.int .i32 1, .int .i32 2] _ 22 (by kernel_rfl) (by kernel_rfl) (by kernel_rfl) (word_Sub.calls hc157 hS) ?_
    rintro v w ⟨rfl, hS⟩
    refine EL.quick 3 [1, 2, 4, 5, 6, 25] [(1, .int .i32 t138), (2, .bool (t139)), (4, .bool (t145)), (5, .int .i32 t150), (6, .bool (t151)), (25, .bool (decide (t156 = (-1))))] (by kernel_rfl) ?_
    by_cases h158 : t156 = (-1)
    · rw [if_pos h158] at H
      refine EL.keep [1, 2, 4, 5, 6, 25] [(1, .int .i32 t138), (2, .bool (t139)), (4, .bool (t145)), (5, .int .i32 t150), (6, .bool (t151)), (25, .bool (decide (t156 = (-1))))] (by kernel_rfl) ?_
      refine EL.as' [(1, .int .i32 t138), (2, .bool (t139)), (4, .bool (t145)), (5, .int .i32 t150), (6, .bool (t151)), (25, .bool (true))] (by simp only [dec_t h158, Bool.not_true, Bool.not_false]) ?_
      obtain ⟨t159, hc160, H⟩ := b1_out H
      refine EL.callD 34 [.int .i32 3, .int .i32 (-4)] _ 26 (by kernel_rfl) (by kernel_rfl) (by kernel_rfl) (word_Mul.calls hc160 hS) ?_
      rintro v w ⟨rfl, hS⟩
      refine EL.quick 3 [1, 2, 4, 5, 6, 29] [(1, .int .i32 t138), (2, .bool (t139)), (4, .bool (t145)), (5, .int .i32 t150), (6, .bool (t151)), (29, .bool (decide (t159 = (-12))))] (by kernel_rfl) ?_
      by_cases h161 : t159 = (-12)
      · rw [if_pos h161] at H
        refine EL.keep [1, 2, 4, 5, 6, 29] [(1, .int .i32 t138), (2, .bool (t139)), (4, .bool (t145)), (5, .int .i32 t150), (6, .bool (t151)), (29, .bool (decide (t159 = (-12))))] (by kernel_rfl) ?_
        refine EL.as' [(1, .int .i32 t138), (2, .bool (t139)), (4, .bool (t145)), (5, .int .i32 t150), (6, .bool (t151)), (29, .bool (true))] (by simp only [dec_t h161, Bool.not_true, Bool.not_false]) ?_
        refine EL.quick 3 [1, 4, 5, 6, 32] [(1, .int .i32 t138), (4, .bool (t145)), (5, .int .i32 t150), (6, .bool (t151)), (32, .bool (t139))] (by kernel_rfl) ?_
        by_cases h162 : t139 = true
        · rw [if_pos h162] at H
          refine EL.keep [1, 4, 5, 6, 32] [(1, .int .i32 t138), (4, .bool (t145)), (5, .int .i32 t150), (6, .bool (t151)), (32, .bool (t139))] (by kernel_rfl) ?_
          refine EL.as' [(1, .int .i32 t138), (4, .bool (t145)), (5, .int .i32 t150), (6, .bool (t151)), (32, .bool (true))] (by simp only [h162, Bool.not_true, Bool.not_false]) ?_
          refine EL.quick 4 [4, 5, 6, 36] [(4, .bool (t145)), (5, .int .i32 t150), (6, .bool (t151)), (36, .bool (decide (t138 = (-3))))] (by kernel_rfl) ?_
          by_cases h163 : t138 = (-3)
          · rw [if_pos h163] at H
            refine EL.keep [4, 5, 6, 36] [(4, .bool (t145)), (5, .int .i32 t150), (6, .bool (t151)), (36, .bool (decide (t138 = (-3))))] (by kernel_rfl) ?_
            refine EL.as' [(4, .bool (t145)), (5, .int .i32 t150), (6, .bool (t151)), (36, .bool (true))] (by simp only [dec_t h163, Bool.not_true, Bool.not_false]) ?_
            refine EL.quick 4 [5, 6, 40] [(5, .int .i32 t150), (6, .bool (t151)), (40, .bool (!(t145)))] (by kernel_rfl) ?_
            by_cases h164 : t145 = true
            · rw [if_pos h164] at H
              refine EL.keep [5, 6, 40] [(5, .int .i32 t150), (6, .bool (t151)), (40, .bool (!(t145)))] (by kernel_rfl) ?_
              refine EL.as' [(5, .int .i32 t150), (6, .bool (t151)), (40, .bool (false))] (by simp only [h164, Bool.not_true, Bool.not_false]) ?_
              refine EL.quick 15 [0] [(0, .bool (false))] (by kernel_rfl) ?_
              refine EL.done (by kernel_rfl) ?_
              refine EQ.code ?_
              refine EW.ret (by kernel_rfl) ?_
              obtain rfl := Option.some.inj H
              exact EQ.leave (.bool (false)) (by kernel_rfl) ⟨_, rfl, rfl, (hS.re [] [] rfl (sub_self))⟩
            · rw [if_neg h164] at H
              refine EL.keep [5, 6, 40] [(5, .int .i32 t150), (6, .bool (t151)), (40, .bool (!(t145)))] (by kernel_rfl) ?_
              refine EL.as' [(5, .int .i32 t150), (6, .bool (t151)), (40, .bool (true))] (by simp only [(Bool.eq_false_iff.2 h164), Bool.not_true, Bool.not_false]) ?_
              refine EL.quick 3 [5, 43] [(5, .int .i32 t150), (43, .bool (t151))] (by kernel_rfl) ?_
              by_cases h165 : t151 = true
              · rw [if_pos h165] at H
                refine EL.keep [5, 43] [(5, .int .i32 t150), (43, .bool (t151))] (by kernel_rfl) ?_
                refine EL.as' [(5, .int .i32 t150), (43, .bool (true))] (by simp only [h165, Bool.not_true, Bool.not_false]) ?_
                refine EL.quick 4 [47] [(47, .bool (decide (t150 = (-2147483648))))] (by kernel_rfl) ?_
                by_cases h166 : t150 = (-2147483648)
                · rw [if_pos h166] at H
                  refine EL.keep [47] [(47, .bool (decide (t150 = (-2147483648))))] (by kernel_rfl) ?_
                  refine EL.as' [(47, .bool (true))] (by simp only [dec_t h166, Bool.not_true, Bool.not_false]) ?_
                  obtain ⟨t167, hc168, H⟩ := b1_out H
                  refine EL.callD 35 [.int .i32 1, .int .i32 2] _ 48 (by kernel_rfl) (by kernel_rfl) (by kernel_rfl) (word_Less.calls hc168 hS) ?_
                  rintro v w ⟨rfl, hS⟩
                  refine EL.quick 3 [51] [(51, .bool (decide (t167 = 1)))] (by kernel_rfl) ?_
                  by_cases h169 : t167 = 1
                  · rw [if_pos h169] at H
                    refine EL.keep [51] [(51, .bool (decide (t167 = 1)))] (by kernel_rfl) ?_
                    refine EL.as' [(51, .bool (true))] (by simp only [dec_t h169, Bool.not_true, Bool.not_false]) ?_
                    obtain ⟨t170, hc171, H⟩ := b1_out H
                    refine EL.callD 37 [.int .i32 1, .int .i32 2] _ 52 (by kernel_rfl) (by kernel_rfl) (by kernel_rfl) (word_Eq.calls hc171 hS) ?_
                    rintro v w ⟨rfl, hS⟩
                    refine EL.quick 3 [0] [(0, .bool (decide (t170 = 0)))] (by kernel_rfl) ?_
                    refine EL.done (by kernel_rfl) ?_
                    refine EQ.code ?_
                    refine EW.ret (by kernel_rfl) ?_
                    obtain rfl := Option.some.inj H
                    exact EQ.leave (.bool (decide (t170 = 0))) (by kernel_rfl) ⟨_, rfl, rfl, (hS.re [] [] rfl (sub_self))⟩
                  · rw [if_neg h169] at H
                    refine EL.keep [51] [(51, .bool (decide (t167 = 1)))] (by kernel_rfl) ?_
                    refine EL.as' [(51, .bool (false))] (by simp only [dec_f h169, Bool.not_true, Bool.not_false]) ?_
                    refine EL.quick 4 [0] [(0, .bool (false))] (by kernel_rfl) ?_
                    refine EL.done (by kernel_rfl) ?_
                    refine EQ.code ?_
                    refine EW.ret (by kernel_rfl) ?_
                    obtain rfl := Option.some.inj H
                    exact EQ.leave (.bool (false)) (by kernel_rfl) ⟨_, rfl, rfl, (hS.re [] [] rfl (sub_self))⟩
                · rw [if_neg h166] at H
                  refine EL.keep [47] [(47, .bool (decide (t150 = (-2147483648))))] (by kernel_rfl) ?_
                  refine EL.as' [(47, .bool (false))] (by simp only [dec_f h166, Bool.not_true, Bool.not_false]) ?_
                  refine EL.quick 8 [0] [(0, .bool (false))] (by kernel_rfl) ?_
                  refine EL.done (by kernel_rfl) ?_
                  refine EQ.code ?_
                  refine EW.ret (by kernel_rfl) ?_
                  obtain rfl := Option.some.inj H
                  exact EQ.leave (.bool (false)) (by kernel_rfl) ⟨_, rfl, rfl, (hS.re [] [] rfl (sub_self))⟩
              · rw [if_neg h165] at H
                refine EL.keep [5, 43] [(5, .int .i32 t150), (43, .bool (t151))] (by kernel_rfl) ?_
                refine EL.as' [(5, .int .i32 t150), (43, .bool (false))] (by simp only [(Bool.eq_false_iff.2 h165), Bool.not_true, Bool.not_false]) ?_
                refine EL.quick 12 [0] [(0, .bool (false))] (by kernel_rfl) ?_
                refine EL.done (by kernel_rfl) ?_
                refine EQ.code ?_
                refine EW.ret (by kernel_rfl) ?_
                obtain rfl := Option.some.inj H
                exact EQ.leave (.bool (false)) (by kernel_rfl) ⟨_, rfl, rfl, (hS.re [] [] rfl (sub_self))⟩
          · rw [if_neg h163] at H
            refine EL.keep [4, 5, 6, 36] [(4, .bool (t145)), (5, .int .i32 t150), (6, .bool (t151)), (36, .bool (decide (t138 = (-3))))] (by kernel_rfl) ?_
            refine EL.as' [(4, .bool (t145)), (5, .int .i32 t150), (6, .bool (t151)), (36, .bool (false))] (by simp only [dec_f h163, Bool.not_true, Bool.not_false]) ?_
            refine EL.quick 19 [0] [(0, .bool (false))] (by kernel_rfl) ?_
            refine EL.done (by kernel_rfl) ?_
            refine EQ.code ?_
            refine EW.ret (by kernel_rfl) ?_
            obtain rfl := Option.some.inj H
            exact EQ.leave (.bool (false)) (by kernel_rfl) ⟨_, rfl, rfl, (hS.re [] [] rfl (sub_self))⟩
        · rw [if_neg h162] at H
          refine EL.keep [1, 4, 5, 6, 32] [(1, .int .i32 t138), (4, .bool (t145)), (5, .int .i32 t150), (6, .bool (t151)), (32, .bool (t139))] (by kernel_rfl) ?_
          refine EL.as' [(1, .int .i32 t138), (4, .bool (t145)), (5, .int .i32 t150), (6, .bool (t151)), (32, .bool (false))] (by simp only [(Bool.eq_false_iff.2 h162), Bool.not_true, Bool.not_false]) ?_
          refine EL.quick 23 [0] [(0, .bool (false))] (by kernel_rfl) ?_
          refine EL.done (by kernel_rfl) ?_
          refine EQ.code ?_
          refine EW.ret (by kernel_rfl) ?_
          obtain rfl := Option.some.inj H
          exact EQ.leave (.bool (false)) (by kernel_rfl) ⟨_, rfl, rfl, (hS.re [] [] rfl (sub_self))⟩
      · rw [if_neg h161] at H
        refine EL.keep [1, 2, 4, 5, 6, 29] [(1, .int .i32 t138), (2, .bool (t139)), (4, .bool (t145)), (5, .int .i32 t150), (6, .bool (t151)), (29, .bool (decide (t159 = (-12))))] (by kernel_rfl) ?_
        refine EL.as' [(1, .int .i32 t138), (2, .bool (t139)), (4, .bool (t145)), (5, .int .i32 t150), (6, .bool (t151)), (29, .bool (false))] (by simp only [dec_f h161, Bool.not_true, Bool.not_false]) ?_
        refine EL.quick 26 [0] [(0, .bool (false))] (by kernel_rfl) ?_
        refine EL.done (by kernel_rfl) ?_
        refine EQ.code ?_
        refine EW.ret (by kernel_rfl) ?_
        obtain rfl := Option.some.inj H
        exact EQ.leave (.bool (false)) (by kernel_rfl) ⟨_, rfl, rfl, (hS.re [] [] rfl (sub_self))⟩
    · rw [if_neg h158] at H
      refine EL.keep [1, 2, 4, 5, 6, 25] [(1, .int .i32 t138), (2, .bool (t139)), (4, .bool (t145)), (5, .int .i32 t150), (6, .bool (t151)), (25, .bool (decide (t156 = (-1))))] (by kernel_rfl) ?_
      refine EL.as' [(1, .int .i32 t138), (2, .bool (t139)), (4, .bool (t145)), (5, .int .i32 t150), (6, .bool (t151)), (25, .bool (false))] (by simp only [dec_f h158, Bool.not_true, Bool.not_false]) ?_
      refine EL.quick 30 [0] [(0, .bool (false))] (by kernel_rfl) ?_
      refine EL.done (by kernel_rfl) ?_
      refine EQ.code ?_
      refine EW.ret (by kernel_rfl) ?_
      obtain rfl := Option.some.inj H
      exact EQ.leave (.bool (false)) (by kernel_rfl) ⟨_, rfl, rfl, (hS.re [] [] rfl (sub_self))⟩
  · rw [if_neg h155] at H
    refine EL.keep [1, 2, 4, 5, 6, 21] [(1, .int .i32 t138), (2, .bool (t139)), (4, .bool (t145)), (5, .int .i32 t150), (6, .bool (t151)), (21, .bool (decide (t153 = (-2147483648))))] (by kernel_rfl) ?_
    refine EL.as' [(1, .int .i32 t138), (2, .bool (t139)), (4, .bool (t145)), (5, .int .i32 t150), (6, .bool (t151)), (21, .bool (false))] (by simp only [dec_f h155, Bool.not_true, Bool.not_false]) ?_
    refine EL.quick 34 [0] [(0, .bool (false))] (by kernel_rfl) ?_
    refine EL.done (by kernel_rfl) ?_
    refine EQ.code ?_
    refine EW.ret (by kernel_rfl) ?_
    obtain rfl := Option.some.inj H
    exact EQ.leave (.bool (false)) (by kernel_rfl) ⟨_, rfl, rfl, (hS.re [] [] rfl (sub_self))⟩

/-! ### confidant/confidantlaw9.WordDivides: function 10 -/
def confidantlaw9_WordDivides.f (K : Nat) (a3 : Int) (a4 : Int) : Option Bool := b1 (confidantlaw9_known.f K) fun (t217 : Bool) => (if t217 = true then (b2 (word_Div.f K a3 a4) fun (t223 : Int) (t224 : Bool) => (if a4 = 0 then (if t224 = true then (some false) else (some (decide (t223 = 0)))) else (b1 (word_Mul.f K t223 a4) fun (t234 : Int) => (b1 (word_Sub.f K a3 t234) fun (t236 : Int) => (lt (fun (x240 : Int) => (if t224 = true then (if (IntKind.i64.wrap t236) < x240 then (if (IntKind.i64.wrap (0 - (IntKind.i64.wrap t236))) < x240 then (if t236 = 0 then (some true) else (some ((decide (t236 < 0)) == (decide (a3 < 0))))) else (some false)) else (some false)) else (some false))) fun j241 => (if (IntKind.i64.wrap a4) < 0 then (j241 (IntKind.i64.wrap (0 - (IntKind.i64.wrap a4)))) else (j241 (IntKind.i64.wrap a4)))))))) else (some false))
set_option maxRecDepth 100000 in
theorem confidantlaw9_WordDivides.calls {K : Nat} {a3 : Int} {a4 : Int} {x209 : Bool} {B w : World} {os : List Ass} {rs : List Ro} (H : confidantlaw9_WordDivides.f K a3 a4 = some x209) (hS : St B w (os) (rs)) :
    Calls Try.prog 10 [.int .i32 a3, .int .i32 a4].toArray w (fun en w' => ∃ v, en = .returned v ∧ v = .bool (x209) ∧ St B w' (os) (rs)) := by
  unfold confidantlaw9_WordDivides.f at H
  refine calls_of_EW (args := [.int .i32 a3, .int .i32 a4]) (c := C10) 61 Try.func10 (by kernel_rfl) (by kernel_rfl) (by kernel_rfl) ?_
  refine EW.seq (x := C10.l) (y := C10.r) (by kernel_rfl) ?_
  refine EW.region (id := 0) (ops := C10.l.ops) (by kernel_rfl) ?_
  refine EL.quick 1 [0, 1] [(0, .int .i32 a3), (1, .int .i32 a4)] (by kernel_rfl) ?_
  refine EL.done (by kernel_rfl) ?_
  refine EQ.code ?_
  refine EW.seq (x := C10.r.l) (y := C10.r.r) (by kernel_rfl) ?_
  refine EW.seq (x := C10.r.l.l) (y := C10.r.l.r) (by kernel_rfl) ?_
  refine EW.region (id := 1) (ops := C10.r.l.l.ops) (by kernel_rfl) ?_
  obtain ⟨t217, hc218, H⟩ := b1_out H
  refine EL.callD 29 [] _ 9 (by kernel_rfl) (by kernel_rfl) (by kernel_rfl) (confidantlaw9_known.calls hc218 hS) ?_
  rintro v w ⟨rfl, hS⟩
  refine EL.quick 1 [0, 1, 10] [(0, .int .i32 a3), (1, .int .i32 a4), (10, .bool (!(t217)))] (by kernel_rfl) ?_
  refine EL.done (by kernel_rfl) ?_
  refine EQ.code ?_
  refine EW.condQ (b := !(t217)) (o := (.tmp 10)) (x := C10.r.l.r.l) (y := C10.r.l.r.r) (t217 = true) (false) (by kernel_rfl) (by kernel_rfl) (by constructor <;> intro h <;> simp [h]) (fun h219 => ?_) (fun h219 => ?_)
  · rw [if_pos h219] at H
    refine EW.skip (by kernel_rfl) ?_
    refine EQ.code ?_
    refine EW.seq (x := C10.r.r.l) (y := C10.r.r.r) (by kernel_rfl) ?_
    refine EW.region (id := 3) (ops := C10.r.r.l.ops) (by kernel_rfl) ?_
    refine EL.quick 2 [0, 1, 12, 13] [(0, .int .i32 a3), (1, .int .i32 a4), (12, .int .i32 a3), (13, .int .i32 a4)] (by kernel_rfl) ?_
    obtain ⟨t223, t224, hc225, H⟩ := b2_out H
    refine EL.callD 30 [.int .i32 a3, .int .i32 a4] _ 14 (by kernel_rfl) (by kernel_rfl) (by kernel_rfl) (word_Div.calls hc225 hS) ?_
    rintro v w ⟨rfl, hS⟩
    refine EL.quick 5 [0, 1, 5, 6] [(0, .int .i32 a3), (1, .int .i32 a4), (5, .int .i32 t223), (6, .bool (t224))] (by kernel_rfl) ?_
    refine EL.done (by kernel_rfl) ?_
    refine EQ.code ?_
    refine EW.seq (x := C10.r.r.r.l) (y := C10.r.r.r.r) (by kernel_rfl) ?_
    refine EW.seq (x := C10.r.r.r.l.l) (y := C10.r.r.r.l.r) (by kernel_rfl) ?_
    refine EW.region (id := 4) (ops := C10.r.r.r.l.l.ops) (by kernel_rfl) ?_
    refine EL.quick 2 [0, 1, 5, 6, 18] [(0, .int .i32 a3), (1, .int .i32 a4), (5, .int .i32 t223), (6, .bool (t224)), (18, .bool (decide (a4 = 0)))] (by kernel_rfl) ?_
    refine EL.done (by kernel_rfl) ?_
    refine EQ.code ?_
    refine EW.condP (o := (.tmp 18)) (x := C10.r.r.r.l.r.l) (y := C10.r.r.r.l.r.r) (a4 = 0) (by kernel_rfl) (by kernel_rfl) (fun h228 => ?_) (fun h228 => ?_)
    · rw [if_pos h228] at H
      refine EW.seq (x := C10.r.r.r.l.r.l.l) (y := C10.r.r.r.l.r.l.r) (by kernel_rfl) ?_
      refine EW.region (id := 5) (ops := C10.r.r.r.l.r.l.l.ops) (by kernel_rfl) ?_
      refine EL.quick 3 [5, 21] [(5, .int .i32 t223), (21, .bool (!(t224)))] (by kernel_rfl) ?_
      by_cases h229 : t224 = true
      · rw [if_pos h229] at H
        refine EL.keep [5, 21] [(5, .int .i32 t223), (21, .bool (!(t224)))] (by kernel_rfl) ?_
        refine EL.as' [(5, .int .i32 t223), (21, .bool (false))] (by simp only [h229, Bool.not_true, Bool.not_false]) ?_
        refine EL.quick 4 [4] [(4, .bool (false))] (by kernel_rfl) ?_
        refine EL.done (by kernel_rfl) ?_
        refine EQ.code ?_
        refine EW.ret (by kernel_rfl) ?_
        refine EQ.ret ?_
        obtain rfl := Option.some.inj H
        exact EQ.leave (.bool (false)) (by kernel_rfl) ⟨_, rfl, rfl, (hS.re [] [] rfl (sub_self))⟩
      · rw [if_neg h229] at H
        refine EL.keep [5, 21] [(5, .int .i32 t223), (21, .bool (!(t224)))] (by kernel_rfl) ?_
        refine EL.as' [(5, .int .i32 t223), (21, .bool (true))] (by simp only [(Bool.eq_false_iff.2 h229), Bool.not_true, Bool.not_false]) ?_
        refine EL.quick 4 [4] [(4, .bool (decide (t223 = 0)))] (by kernel_rfl) ?_
        refine EL.done (by kernel_rfl) ?_
        refine EQ.code ?_
        refine EW.ret (by kernel_rfl) ?_
        refine EQ.ret ?_
        obtain rfl := Option.some.inj H
        exact EQ.leave (.bool (decide (t223 = 0))) (by kernel_rfl) ⟨_, rfl, rfl, (hS.re [] [] rfl (sub_self))⟩
    · rw [if_neg h228] at H
      refine EW.skip (by kernel_rfl) ?_
      refine EQ.code ?_
      refine EW.seq (x := C10.r.r.r.r.l) (y := C10.r.r.r.r.r) (by kernel_rfl) ?_
      refine EW.region (id := 6) (ops := C10.r.r.r.r.l.ops) (by kernel_rfl) ?_
      refine EL.quick 3 [0, 1, 6, 25, 26, 27] [(0, .int .i32 a3), (1, .int .i32 a4), (6, .bool (t224)), (25, .int .i32 a3), (26, .int .i32 t223), (27, .int .i32 a4)] (by kernel_rfl) ?_
      obtain ⟨t234, hc235, H⟩ := b1_out H
      refine EL.callD 34 [.int .i32 t223, .int .i32 a4] _ 28 (by kernel_rfl) (by kernel_rfl) (by kernel_rfl) (word_Mul.calls hc235 hS) ?_
      rintro v w ⟨rfl, hS⟩
      obtain ⟨t236, hc237, H⟩ := b1_out H
      refine EL.callD 33 [.int .i32 a3, .int .i32 t234] _ 29 (by kernel_rfl) (by kernel_rfl) (by kernel_rfl) (word_Sub.calls hc237 hS) ?_
      rintro v w ⟨rfl, hS⟩
      refine EL.quick 1 [0, 1, 6, 7] [(0, .int .i32 a3), (1, .int .i32 a4), (6, .bool (t224)), (7, .int .i32 t236)] (by kernel_rfl) ?_
      refine EL.done (by kernel_rfl) ?_
      refine EQ.code ?_
      refine EW.seq (x := C10.r.r.r.r.r.l) (y := C10.r.r.r.r.r.r) (by kernel_rfl) ?_
      refine EW.region (id := 7) (ops := C10.r.r.r.r.r.l.ops) (by kernel_rfl) ?_
      refine EL.quick 3 [0, 6, 7, 8] [(0, .int .i32 a3), (6, .bool (t224)), (7, .int .i32 t236), (8, .int .i64 (IntKind.i64.wrap a4))] (by kernel_rfl) ?_
      refine EL.done (by kernel_rfl) ?_
      refine EQ.code ?_
      obtain ⟨j241, hj241, H⟩ := lt_out H
      refine EW.cut (x := C10.r.r.r.r.r.r.l) (y := C10.r.r.r.r.r.r.r) (fun a w => ∃ x240 : Int, Sat 61 [(0, .int .i32 a3), (6, .bool (t224)), (7, .int .i32 t236), (8, .int .i64 x240)] a ∧ St B w (os) (rs) ∧ j241 x240 = some x209) (by kernel_rfl) ?_ (fun a w hI => ?_)
      · refine EW.seq (x := C10.r.r.r.r.r.r.l.l) (y := C10.r.r.r.r.r.r.l.r) (by kernel_rfl) ?_
        refine EW.region (id := 8) (ops := C10.r.r.r.r.r.r.l.l.ops) (by kernel_rfl) ?_
        refine EL.quick 2 [0, 6, 7, 8, 33] [(0, .int .i32 a3), (6, .bool (t224)), (7, .int .i32 t236), (8, .int .i64 (IntKind.i64.wrap a4)), (33, .bool (decide ((IntKind.i64.wrap a4) < 0)))] (by kernel_rfl) ?_
        refine EL.done (by kernel_rfl) ?_
        refine EQ.code ?_
        refine EW.condP (o := (.tmp 33)) (x := C10.r.r.r.r.r.r.l.r.l) (y := C10.r.r.r.r.r.r.l.r.r) ((IntKind.i64.wrap a4) < 0) (by kernel_rfl) (by kernel_rfl) (fun h242 => ?_) (fun h242 => ?_)
        · rw [if_pos h242] at H
          refine EW.region (id := 9) (ops := C10.r.r.r.r.r.r.l.r.l.ops) (by kernel_rfl) ?_
          refine EL.quick 3 [0, 6, 7, 8] [(0, .int .i32 a3), (6, .bool (t224)), (7, .int .i32 t236), (8, .int .i64 (IntKind.i64.wrap (0 - (IntKind.i64.wrap a4))))] (by kernel_rfl) ?_
          refine EL.done (by kernel_rfl) ?_
          refine EQ.to ?_
          refine EQ.keep [0, 6, 7, 8] [(0, .int .i32 a3), (6, .bool (t224)), (7, .int .i32 t236), (8, .int .i64 (IntKind.i64.wrap (0 - (IntKind.i64.wrap a4))))] (by kernel_rfl) ?_
          exact fun a ha => ⟨IntKind.i64.wrap (0 - (IntKind.i64.wrap a4)), ha, (hS.re [] [] rfl (sub_self)), H⟩
        · rw [if_neg h242] at H
          refine EW.skip (by kernel_rfl) ?_
          refine EQ.to ?_
          refine EQ.keep [0, 6, 7, 8] [(0, .int .i32 a3), (6, .bool (t224)), (7, .int .i32 t236), (8, .int .i64 (IntKind.i64.wrap a4))] (by kernel_rfl) ?_
          exact fun a ha => ⟨IntKind.i64.wrap a4, ha, (hS.re [] [] rfl (sub_self)), H⟩
      · obtain ⟨x240, ha, hS, H⟩ := hI
        rw [hj241] at H
        (try dsimp only at H)
        refine EW.at ?_ a ha
        clear ha a
        refine EW.seq (x := C10.r.r.r.r.r.r.r.l) (y := C10.r.r.r.r.r.r.r.r) (by kernel_rfl) ?_
        refine EW.region (id := 10) (ops := C10.r.r.r.r.r.r.r.l.ops) (by kernel_rfl) ?_
        refine EL.quick 2 [0, 7, 8, 37] [(0, .int .i32 a3), (7, .int .i32 t236), (8, .int .i64 x240), (37, .bool (t224))] (by kernel_rfl) ?_
        by_cases h243 : t224 = true
        · rw [if_pos h243] at H
          refine EL.keep [0, 7, 8, 37] [(0, .int .i32 a3), (7, .int .i32 t236), (8, .int .i64 x240), (37, .bool (t224))] (by kernel_rfl) ?_
          refine EL.as' [(0, .int .i32 a3), (7, .int .i32 t236), (8, .int .i64 x240), (37, .bool (true))] (by simp only [h243, Bool.not_true, Bool.not_false]) ?_
          refine EL.quick 6 [0, 7, 8, 43] [(0, .int .i32 a3), (7, .int .i32 t236), (8, .int .i64 x240), (43, .bool (decide ((IntKind.i64.wrap t236) < x240)))] (by kernel_rfl) ?_
          by_cases h244 : (IntKind.i64.wrap t236) < x240
          · rw [if_pos h244] at H
            refine EL.keep [0, 7, 8, 43] [(0, .int .i32 a3), (7, .int .i32 t236), (8, .int .i64 x240), (43, .bool (decide ((IntKind.i64.wrap t236) < x240)))] (by kernel_rfl) ?_
            refine EL.as' [(0, .int .i32 a3), (7, .int .i32 t236), (8, .int .i64 x240), (43, .bool (true))] (by simp only [dec_t h244, Bool.not_true, Bool.not_false]) ?_
            refine EL.quick 7 [0, 7, 50] [(0, .int .i32 a3), (7, .int .i32 t236), (50, .bool (decide ((IntKind.i64.wrap (0 - (IntKind.i64.wrap t236))) < x240)))] (by kernel_rfl) ?_
            by_cases h245 : (IntKind.i64.wrap (0 - (IntKind.i64.wrap t236))) < x240
            · rw [if_pos h245] at H
              refine EL.keep [0, 7, 50] [(0, .int .i32 a3), (7, .int .i32 t236), (50, .bool (decide ((IntKind.i64.wrap (0 - (IntKind.i64.wrap t236))) < x240)))] (by kernel_rfl) ?_
              refine EL.as' [(0, .int .i32 a3), (7, .int .i32 t236), (50, .bool (true))] (by simp only [dec_t h245, Bool.not_true, Bool.not_false]) ?_
              refine EL.quick 3 [0, 7, 50, 53] [(0, .int .i32 a3), (7, .int .i32 t236), (50, .bool (true)), (53, .bool (decide (t236 = 0)))] (by kernel_rfl) ?_
              by_cases h246 : t236 = 0
              · rw [if_pos h246] at H
                refine EL.keep [0, 7, 50, 53] [(0, .int .i32 a3), (7, .int .i32 t236), (50, .bool (true)), (53, .bool (decide (t236 = 0)))] (by kernel_rfl) ?_
                refine EL.as' [(0, .int .i32 a3), (7, .int .i32 t236), (50, .bool (true)), (53, .bool (true))] (by simp only [dec_t h246, Bool.not_true, Bool.not_false]) ?_
                refine EL.quick 8 [4] [(4, .bool (true))] (by kernel_rfl) ?_
                refine EL.done (by kernel_rfl) ?_
                refine EQ.code ?_
                refine EW.ret (by kernel_rfl) ?_
                obtain rfl := Option.some.inj H
                exact EQ.leave (.bool (true)) (by kernel_rfl) ⟨_, rfl, rfl, (hS.re [] [] rfl (sub_self))⟩
              · rw [if_neg h246] at H
                refine EL.keep [0, 7, 50, 53] [(0, .int .i32 a3), (7, .int .i32 t236), (50, .bool (true)), (53, .bool (decide (t236 = 0)))] (by kernel_rfl) ?_
                refine EL.as' [(0, .int .i32 a3), (7, .int .i32 t236), (50, .bool (true)), (53, .bool (false))] (by simp only [dec_f h246, Bool.not_true, Bool.not_false]) ?_
                refine EL.quick 8 [4] [(4, .bool (((decide (t236 < 0)) == (decide (a3 < 0)))))] (by kernel_rfl) ?_
                refine EL.done (by kernel_rfl) ?_
                refine EQ.code ?_
                refine EW.ret (by kernel_rfl) ?_
                obtain rfl := Option.some.inj H
                exact EQ.leave (.bool (((decide (t236 < 0)) == (decide (a3 < 0))))) (by kernel_rfl) ⟨_, rfl, rfl, (hS.re [] [] rfl (sub_self))⟩
            · rw [if_neg h245] at H
              refine EL.keep [0, 7, 50] [(0, .int .i32 a3), (7, .int .i32 t236), (50, .bool (decide ((IntKind.i64.wrap (0 - (IntKind.i64.wrap t236))) < x240)))] (by kernel_rfl) ?_
              refine EL.as' [(0, .int .i32 a3), (7, .int .i32 t236), (50, .bool (false))] (by simp only [dec_f h245, Bool.not_true, Bool.not_false]) ?_
              refine EL.quick 11 [4] [(4, .bool (false))] (by kernel_rfl) ?_
              refine EL.done (by kernel_rfl) ?_
              refine EQ.code ?_
              refine EW.ret (by kernel_rfl) ?_
              obtain rfl := Option.some.inj H
              exact EQ.leave (.bool (false)) (by kernel_rfl) ⟨_, rfl, rfl, (hS.re [] [] rfl (sub_self))⟩
          · rw [if_neg h244] at H
            refine EL.keep [0, 7, 8, 43] [(0, .int .i32 a3), (7, .int .i32 t236), (8, .int .i64 x240), (43, .bool (decide ((IntKind.i64.wrap t236) < x240)))] (by kernel_rfl) ?_
            refine EL.as' [(0, .int .i32 a3), (7, .int .i32 t236), (8, .int .i64 x240), (43, .bool (false))] (by simp only [dec_f h244, Bool.not_true, Bool.not_false]) ?_
            refine EL.quick 18 [4] [(4, .bool (false))] (by kernel_rfl) ?_
            refine EL.done (by kernel_rfl) ?_
            refine EQ.code ?_
            refine EW.ret (by kernel_rfl) ?_
            obtain rfl := Option.some.inj H
            exact EQ.leave (.bool (false)) (by kernel_rfl) ⟨_, rfl, rfl, (hS.re [] [] rfl (sub_self))⟩
        · rw [if_neg h243] at H
          refine EL.keep [0, 7, 8, 37] [(0, .int .i32 a3), (7, .int .i32 t236), (8, .int .i64 x240), (37, .bool (t224))] (by kernel_rfl) ?_
          refine EL.as' [(0, .int .i32 a3), (7, .int .i32 t236), (8, .int .i64 x240), (37, .bool (false))] (by simp only [(Bool.eq_false_iff.2 h243), Bool.not_true, Bool.not_false]) ?_
          refine EL.quick 24 [4] [(4, .bool (false))] (by kernel_rfl) ?_
          refine EL.done (by kernel_rfl) ?_
          refine EQ.code ?_
          refine EW.ret (by kernel_rfl) ?_
          obtain rfl := Option.some.inj H
          exact EQ.leave (.bool (false)) (by kernel_rfl) ⟨_, rfl, rfl, (hS.re [] [] rfl (sub_self))⟩
  · rw [if_neg h219] at H
    refine EW.seq (x := C10.r.l.r.l.l) (y := C10.r.l.r.l.r) (by kernel_rfl) ?_
    refine EW.region (id := 2) (ops := C10.r.l.r.l.l.ops) (by kernel_rfl) ?_
    refine EL.quick 1 [4] [(4, .bool (false))] (by kernel_rfl) ?_
    refine EL.done (by kernel_rfl) ?_
    refine EQ.code ?_
    refine EW.ret (by kernel_rfl) ?_
    refine EQ.ret ?_
    obtain rfl := Option.some.inj H
    exact EQ.leave (.bool (false)) (by kernel_rfl) ⟨_, rfl, rfl, (hS.re [] [] rfl (sub_self))⟩

def confidantlaw9_WordDivides.Pure : Prop := ∀ (a3 : Int) (a4 : Int), (Lit.int .i32 a3).wf = true → (Lit.int .i32 a4).wf = true → ∃ K, confidantlaw9_WordDivides.f K a3 a4 = some true

noncomputable def C11 : Code := bodyOf Try.f11

/-! ### confidant/confidantlaw9.WordOrders: function 11 -/
def confidantlaw9_WordOrders.f (K : Nat) (a4 : Int) (a5 : Int) (a6 : Int) : Option Bool := b1 (confidantlaw9_known.f K) fun (t67 : Bool) => (if t67 = true then (b1 (word_Less.f K a4 a5) fun (t70 : Int) => (b1 (word_Less.f K a5 a4) fun (t72 : Int) => (b1 (word_Eq.f K a4 a5) fun (t74 : Int) => (if (IntKind.i32.wrap ((IntKind.i32.wrap (t70 + t72)) + t74)) = 1 then (b1 (word_Less.f K a4 a4) fun (t77 : Int) => (if t77 = 0 then (b1 (word_Eq.f K a4 a4) fun (t80 : Int) => (if t80 = 1 then (b1 (word_Add.f K a4 a5) fun (t83 : Int) => (b1 (word_Add.f K a5 a4) fun (t85 : Int) => (if t83 = t85 then (b1 (word_Add.f K a4 a5) fun (t88 : Int) => (b1 (word_Add.f K t88 a6) fun (t90 : Int) => (b1 (word_Add.f K a5 a6) fun (t92 : Int) => (b1 (word_Add.f K a4 t92) fun (t94 : Int) => (if t90 = t94 then (b1 (word_Add.f K a4 a5) fun (t97 : Int) => (b1 (word_Sub.f K t97 a5) fun (t99 : Int) => (if t99 = a4 then (b1 (word_Add.f K a5 a6) fun (t102 : Int) => (b1 (word_Mul.f K a4 t102) fun (t104 : Int) => (b1 (word_Mul.f K a4 a5) fun (t106 : Int) => (b1 (word_Mul.f K a4 a6) fun (t108 : Int) => (b1 (word_Add.f K t106 t108) fun (t110 : Int) => (some (decide (t104 = t110)))))))) else (some false)))) else (some false)))))) else (some false)))) else (some false))) else (some false))) else (some false))))) else (some false))
set_option maxRecDepth 100000 in
theorem confidantlaw9_WordOrders.calls {K : Nat} {a4 : Int} {a5 : Int} {a6 : Int} {x59 : Bool} {B w : World} {os : List Ass} {rs : List Ro} (H : confidantlaw9_WordOrders.f K a4 a5 a6 = some x59) (hS : St B w (os) (rs)) :
    Calls Try.prog 11 [.int .i32 a4, .int .i32 a5, .int .i32 a6].toArray w (fun en w' => ∃ v, en = .returned v ∧ v = .bool (x59) ∧ St B w' (os) (rs)) := by
  unfold confidantlaw9_WordOrders.f at H
  refine calls_of_EW (args := [.int .i32 a4, .int .i32 a5, .int .i32 a6]) (c := C11) 79 Try.func11 (by kernel_rfl) (by kernel_rfl) (by kernel_rfl) ?_
  refine EW.seq (x := C11.l) (y := C11.r) (by kernel_rfl) ?_
  refine EW.region (id := 0) (ops := C11.l.ops) (by kernel_rfl) ?_
  refine EL.quick 1 [0, 1, 2] [(0, .int .i32 a4), (1, .int .i32 a5), (2, .int .i32 a6)] (by kernel_rfl) ?_
  refine EL.done (by kernel_rfl) ?_
  refine EQ.code ?_
  refine EW.seq (x := C11.r.l) (y := C11.r.r) (by kernel_rfl) ?_
  refine EW.seq (x := C11.r.l.l) (y := C11.r.l.r) (by kernel_rfl) ?_
  refine EW.region (id := 1) (ops := C11.r.l.l.ops) (by kernel_rfl) ?_
  obtain ⟨t67, hc68, H⟩ := b1_out H
  refine EL.callD 29 [] _ 7 (by kernel_rfl) (by kernel_rfl) (by kernel_rfl) (confidantlaw9_known.calls hc68 hS) ?_
  rintro v w ⟨rfl, hS⟩
  refine EL.quick 1 [0, 1, 2, 8] [(0, .int .i32 a4), (1, .int .i32 a5), (2, .int .i32 a6), (8, .bool (!(t67)))] (by kernel_rfl) ?_
  refine EL.done (by kernel_rfl) ?_
  refine EQ.code ?_
  refine EW.condQ (b := !(t67)) (o := (.tmp 8)) (x := C11.r.l.r.l) (y := C11.r.l.r.r) (t67 = true) (false) (by kernel_rfl) (by kernel_rfl) (by constructor <;> intro h <;> simp [h]) (fun h69 => ?_) (fun h69 => ?_)
  · rw [if_pos h69] at H
    refine EW.skip (by kernel_rfl) ?_
    refine EQ.code ?_
    refine EW.seq (x := C11.r.r.l) (y := C11.r.r.r) (by kernel_rfl) ?_
    refine EW.region (id := 3) (ops := C11.r.r.l.ops) (by kernel_rfl) ?_
    refine EL.quick 2 [0, 1, 2, 9, 10] [(0, .int .i32 a4), (1, .int .i32 a5), (2, .int .i32 a6), (9, .int .i32 a4), (10, .int .i32 a5)] (by kernel_rfl) ?_
    obtain ⟨t70, hc71, H⟩ := b1_out H
    refine EL.callD 35 [.int .i32 a4, .int .i32 a5] _ 11 (by kernel_rfl) (by kernel_rfl) (by kernel_rfl) (word_Less.calls hc71 hS) ?_
    rintro v w ⟨rfl, hS⟩
    refine EL.quick 2 [0, 1, 2, 11, 12, 13] [(0, .int .i32 a4), (1, .int .i32 a5), (2, .int .i32 a6), (11, .int .i32 t70), (12, .int .i32 a5), (13, .int .i32 a4)] (by kernel_rfl) ?_
    obtain ⟨t72, hc73, H⟩ := b1_out H
    refine EL.callD 35 [.int .i32 a5, .int .i32 a4] _ 14 (by kernel_rfl) (by kernel_rfl) (by kernel_rfl) (word_Less.calls hc73 hS) ?_
    rintro v w ⟨rfl, hS⟩
    refine EL.quick 3 [0, 1, 2, 15, 16, 17] [(0, .int .i32 a4), (1, .int .i32 a5), (2, .int .i32 a6), (15, .int .i32 (IntKind.i32.wrap (t70 + t72))), (16, .int .i32 a4), (17, .int .i32 a5)] (by kernel_rfl) ?_
    obtain ⟨t74, hc75, H⟩ := b1_out H
    refine EL.callD 37 [.int .i32 a4, .int .i32 a5] _ 18 (by kernel_rfl) (by kernel_rfl) (by kernel_rfl) (word_Eq.calls hc75 hS) ?_
    rintro v w ⟨rfl, hS⟩
    refine EL.quick 3 [0, 1, 2, 21] [(0, .int .i32 a4), (1, .int .i32 a5), (2, .int .i32 a6), (21, .bool (decide ((IntKind.i32.wrap ((IntKind.i32.wrap (t70 + t72)) + t74)) = 1)))] (by kernel_rfl) ?_
    by_cases h76 : (IntKind.i32.wrap ((IntKind.i32.wrap (t70 + t72)) + t74)) = 1
    · rw [if_pos h76] at H
      refine EL.keep [0, 1, 2, 21] [(0, .int .i32 a4), (1, .int .i32 a5), (2, .int .i32 a6), (21, .bool (decide ((IntKind.i32.wrap ((IntKind.i32.wrap (t70 + t72)) + t74)) = 1)))] (by kernel_rfl) ?_
      refine EL.as' [(0, .int .i32 a4), (1, .int .i32 a5), (2, .int .i32 a6), (21, .bool (true))] (by simp only [dec_t h76, Bool.not_true, Bool.not_false]) ?_
      refine EL.quick 2 [0, 1, 2, 21, 22, 23] [(0, .int .i32 a4), (1, .int .i32 a5), (2, .int .i32 a6), (21, .bool (true)), (22, .int .i32 a4), (23, .int .i32 a4)] (by kernel_rfl) ?_
      obtain ⟨t77, hc78, H⟩ := b1_out H
      refine EL.callD 35 [.int .i32 a4, .int .i32 a4] _ 24 (by kernel_rfl) (by kernel_rfl) (by kernel_rfl) (word_Less.calls hc78 hS) ?_
      rintro v w ⟨rfl, hS⟩
      refine EL.quick 3 [0, 1, 2, 27] [(0, .int .i32 a4), (1, .int .i32 a5), (2, .int .i32 a6), (27, .bool (decide (t77 = 0)))] (by kernel_rfl) ?_
      by_cases h79 : t77 = 0
      · rw [if_pos h79] at H
        refine EL.keep [0, 1, 2, 27] [(0, .int .i32 a4), (1, .int .i32 a5), (2, .int .i32 a6), (27, .bool (decide (t77 = 0)))] (by kernel_rfl) ?_
        refine EL.as' [(0, .int .i32 a4), (1, .int .i32 a5), (2, .int .i32 a6), (27, .bool (true))] (by simp only [dec_t h79, Bool.not_true, Bool.not_false]) ?_
        refine EL.quick 2 [0, 1, 2, 27, 28, 29] [(0, .int .i32 a4), (1, .int .i32 a5), (2, .int .i32 a6), (27, .bool (true)), (28, .int .i32 a4), (29, .int .i32 a4)] (by kernel_rfl) ?_
        obtain ⟨t80, hc81, H⟩ := b1_out H
        refine EL.callD 37 [.int .i32 a4, .int .i32 a4] _ 30 (by kernel_rfl) (by kernel_rfl) (by kernel_rfl) (word_Eq.calls hc81 hS) ?_
        rintro v w ⟨rfl, hS⟩
        refine EL.quick 3 [0, 1, 2, 33] [(0, .int .i32 a4), (1, .int .i32 a5), (2, .int .i32 a6), (33, .bool (decide (t80 = 1)))] (by kernel_rfl) ?_
        by_cases h82 : t80 = 1
        · rw [if_pos h82] at H
          refine EL.keep [0, 1, 2, 33] [(0, .int .i32 a4), (1, .int .i32 a5), (2, .int .i32 a6), (33, .bool (decide (t80 = 1)))] (by kernel_rfl) ?_
          refine EL.as' [(0, .int .i32 a4), (1, .int .i32 a5), (2, .int .i32 a6), (33, .bool (true))] (by simp only [dec_t h82, Bool.not_true, Bool.not_false]) ?_
          refine EL.quick 2 [0, 1, 2, 33, 34, 35] [(0, .int .i32 a4), (1, .int .i32 a5), (2, .int .i32 a6), (33, .bool (true)), (34, .int .i32 a4), (35, .int .i32 a5)] (by kernel_rfl) ?_
          obtain ⟨t83, hc84, H⟩ := b1_out H
          refine EL.callD 32 [.int .i32 a4, .int .i32 a5] _ 36 (by kernel_rfl) (by kernel_rfl) (by kernel_rfl) (word_Add.calls hc84 hS) ?_
          rintro v w ⟨rfl, hS⟩
          refine EL.quick 2 [0, 1, 2, 33, 36, 37, 38] [(0, .int .i32 a4), (1, .int .i32 a5), (2, .int .i32 a6), (33, .bool (true)), (36, .int .i32 t83), (37, .int .i32 a5), (38, .int .i32 a4)] (by kernel_rfl) ?_
          obtain ⟨t85, hc86, H⟩ := b1_out H
          refine EL.callD 32 [.int .i32 a5, .int .i32 a4] _ 39 (by kernel_rfl) (by kernel_rfl) (by kernel_rfl) (word_Add.calls hc86 hS) ?_
          rintro v w ⟨rfl, hS⟩
          refine EL.quick 3 [0, 1, 2, 42] [(0, .int .i32 a4), (1, .int .i32 a5), (2, .int .i32 a6), (42, .bool (decide (t83 = t85)))] (by kernel_rfl) ?_
          by_cases h87 : t83 = t85
          · rw [if_pos h87] at H
            refine EL.keep [0, 1, 2, 42] [(0, .int .i32 a4), (1, .int .i32 a5), (2, .int .i32 a6), (42, .bool (decide (t83 = t85)))] (by kernel_rfl) ?_
            refine EL.as' [(0, .int .i32 a4), (1, .int .i32 a5), (2, .int .i32 a6), (42, .bool (true))] (by simp only [dec_t h87, Bool.not_true, Bool.not_false]) ?_
            refine EL.quick 2 [0, 1, 2, 42, 43, 44] [(0, .int .i32 a4), (1, .int .i32 a5), (2, .int .i32 a6), (42, .bool (true)), (43, .int .i32 a4), (44, .int .i32 a5)] (by kernel_rfl) ?_
            obtain ⟨t88, hc89, H⟩ := b1_out H
            refine EL.callD 32 [.int .i32 a4, .int .i32 a5] _ 45 (by kernel_rfl) (by kernel_rfl) (by kernel_rfl) (word_Add.calls hc89 hS) ?_
            rintro v w ⟨rfl, hS⟩
            refine EL.quick 1 [0, 1, 2, 42, 45, 46] [(0, .int .i32 a4), (1, .int .i32 a5), (2, .int .i32 a6), (42, .bool (true)), (45, .int .i32 t88), (46, .int .i32 a6)] (by kernel_rfl) ?_
            obtain ⟨t90, hc91, H⟩ := b1_out H
            refine EL.callD 32 [.int .i32 t88, .int .i32 a6] _ 47 (by kernel_rfl) (by kernel_rfl) (by kernel_rfl) (word_Add.calls hc91 hS) ?_
            rintro v w ⟨rfl, hS⟩
            refine EL.quick 3 [0, 1, 2, 42, 47, 48, 49, 50] [(0, .int .i32 a4), (1, .int .i32 a5), (2, .int .i32 a6), (42, .bool (true)), (47, .int .i32 t90), (48, .int .i32 a4), (49, .int .i32 a5), (50, .int .i32 a6)] (by kernel_rfl) ?_
            obtain ⟨t92, hc93, H⟩ := b1_out H
            refine EL.callD 32 [.int .i32 a5, .int .i32 a6] _ 51 (by kernel_rfl) (by kernel_rfl) (by kernel_rfl) (word_Add.calls hc93 hS) ?_
            rintro v w ⟨rfl, hS⟩
            obtain ⟨t94, hc95, H⟩ := b1_out H
            refine EL.callD 32 [.int .i32 a4, .int .i32 t92] _ 52 (by kernel_rfl) (by kernel_rfl) (by kernel_rfl) (word_Add.calls hc95 hS) ?_
            rintro v w ⟨rfl, hS⟩
            refine EL.quick 3 [0, 1, 2, 55] [(0, .int .i32 a4), (1, .int .i32 a5), (2, .int .i32 a6), (55, .bool (decide (t90 = t94)))] (by kernel_rfl) ?_
            by_cases h96 : t90 = t94
            · rw [if_pos h96] at H
              refine EL.keep [0, 1, 2, 55] [(0, .int .i32 a4), (1, .int .i32 a5), (2, .int .i32 a6), (55, .bool (decide (t90 = t94)))] (by kernel_rfl) ?_
              refine EL.as' [(0, .int .i32 a4), (1, .int .i32 a5), (2, .int .i32 a6), (55, .bool (true))] (by simp only [dec_t h96, Bool.not_true, Bool.not_false]) ?_
              refine EL.quick 2 [0, 1, 2, 55, 56, 57] [(0, .int .i32 a4), (1, .int .i32 a5), (2, .int .i32 a6), (55, .bool (true)), (56, .int .i32 a4), (57, .int .i32 a5)] (by kernel_rfl) ?_
              obtain ⟨t97, hc98, H⟩ := b1_out H
              refine EL.callD 32 [.int .i32 a4, .int .i32 a5] _ 58 (by kernel_rfl) (by kernel_rfl) (by kernel_rfl) (word_Add.calls hc98 hS) ?_
              rintro v w ⟨rfl, hS⟩
              refine EL.quick 1 [0, 1, 2, 55, 58, 59] [(0, .int .i32 a4), (1, .int .i32 a5), (2, .int .i32 a6), (55, .bool (true)), (58, .int .i32 t97), (59, .int .i32 a5)] (by kernel_rfl) ?_
              obtain ⟨t99, hc100, H⟩ := b1_out H
              refine EL.callD 33 [.int .i32 t97, .int .i32 a5] _ 60 (by kernel_rfl) (by kernel_rfl) (by kernel_rfl) (word_Sub.calls hc100 hS) ?_
              rintro v w ⟨rfl, hS⟩
              refine EL.quick 4 [0, 1, 2, 64] [(0, .int .i32 a4), (1, .int .i32 a5), (2, .int .i32 a6), (64, .bool (decide (t99 = a4)))] (by kernel_rfl) ?_
              by_cases h101 : t99 = a4
              · rw [if_pos h101] at H
                refine EL.keep [0, 1, 2, 64] [(0, .int .i32 a4), (1, .int .i32 a5), (2, .int .i32 a6), (64, .bool (decide (t99 = a4)))] (by kernel_rfl) ?_
                refine EL.as' [(0, .int .i32 a4), (1, .int .i32 a5), (2, .int .i32 a6), (64, .bool (true))] (by simp only [dec_t h101, Bool.not_true, Bool.not_false]) ?_
                refine EL.quick 3 [0, 1, 2, 64, 65, 66, 67] [(0, .int .i32 a4), (1, .int .i32 a5), (2, .int .i32 a6), (64, .bool (true)), (65, .int .i32 a4), (66, .int .i32 a5), (67, .int .i32 a6)] (by kernel_rfl) ?_
                obtain ⟨t102, hc103, H⟩ := b1_out H
                refine EL.callD 32 [.int .i32 a5, .int .i32 a6] _ 68 (by kernel_rfl) (by kernel_rfl) (by kernel_rfl) (word_Add.calls hc103 hS) ?_
                rintro v w ⟨rfl, hS⟩
                obtain ⟨t104, hc105, H⟩ := b1_out H
                refine EL.callD 34 [.int .i32 a4, .int .i32 t102] _ 69 (by kernel_rfl) (by kernel_rfl) (by kernel_rfl) (word_Mul.calls hc105 hS) ?_
                rintro v w ⟨rfl, hS⟩
                refine EL.quick 2 [0, 2, 64, 69, 70, 71] [(0, .int .i32 a4), (2, .int .i32 a6), (64, .bool (true)), (69, .int .i32 t104), (70, .int .i32 a4), (71, .int .i32 a5)] (by kernel_rfl) ?_
                obtain ⟨t106, hc107, H⟩ := b1_out H
                refine EL.callD 34 [.int .i32 a4, .int .i32 a5] _ 72 (by kernel_rfl) (by kernel_rfl) (by kernel_rfl) (word_Mul.calls hc107 hS) ?_
                rintro v w ⟨rfl, hS⟩
                refine EL.quick 2 [64, 69, 72, 73, 74] [(64, .bool (true)), (69, .int .i32 t104), (72, .int .i32 t106), (73, .int .i32 a4), (74, .int .i32 a6)] (by kernel_rfl) ?_
                obtain ⟨t108, hc109, H⟩ := b1_out H
                refine EL.callD 34 [.int .i32 a4, .int .i32 a6] _ 75 (by kernel_rfl) (by kernel_rfl) (by kernel_rfl) (word_Mul.calls hc109 hS) ?_
                rintro v w ⟨rfl, hS⟩
                obtain ⟨t110, hc111, H⟩ := b1_out H
                refine EL.callD 32 [.int .i32 t106, .int .i32 t108] _ 76 (by kernel_rfl) (by kernel_rfl) (by kernel_rfl) (word_Add.calls hc111 hS) ?_
                rintro v w ⟨rfl, hS⟩
                refine EL.quick 3 [6] [(6, .bool (decide (t104 = t110)))] (by kernel_rfl) ?_
                refine EL.done (by kernel_rfl) ?_
                refine EQ.code ?_
                refine EW.ret (by kernel_rfl) ?_
                obtain rfl := Option.some.inj H
                exact EQ.leave (.bool (decide (t104 = t110))) (by kernel_rfl) ⟨_, rfl, rfl, (hS.re [] [] rfl (sub_self))⟩
              · rw [if_neg h101] at H
                refine EL.keep [0, 1, 2, 64] [(0, .int .i32 a4), (1, .int .i32 a5), (2, .int .i32 a6), (64, .bool (decide (t99 = a4)))] (by kernel_rfl) ?_
                refine EL.as' [(0, .int .i32 a4), (1, .int .i32 a5), (2, .int .i32 a6), (64, .bool (false))] (by simp only [dec_f h101, Bool.not_true, Bool.not_false]) ?_
                refine EL.quick 15 [6] [(6, .bool (false))] (by kernel_rfl) ?_
                refine EL.done (by kernel_rfl) ?_
                refine EQ.code ?_
                refine EW.ret (by kernel_rfl) ?_
                obtain rfl := Option.some.inj H
                exact EQ.leave (.bool (false)) (by kernel_rfl) ⟨_, rfl, rfl, (hS.re [] [] rfl (sub_self))⟩
            · rw [if_neg h96] at H
              refine EL.keep [0, 1, 2, 55] [(0, .int .i32 a4), (1, .int .i32 a5), (2, .int .i32 a6), (55, .bool (decide (t90 = t94)))] (by kernel_rfl) ?_
              refine EL.as' [(0, .int .i32 a4), (1, .int .i32 a5), (2, .int .i32 a6), (55, .bool (false))] (by simp only [dec_f h96, Bool.not_true, Bool.not_false]) ?_
              refine EL.quick 24 [6] [(6, .bool (false))] (by kernel_rfl) ?_
              refine EL.done (by kernel_rfl) ?_
              refine EQ.code ?_
              refine EW.ret (by kernel_rfl) ?_
              obtain rfl := Option.some.inj H
              exact EQ.leave (.bool (false)) (by kernel_rfl) ⟨_, rfl, rfl, (hS.re [] [] rfl (sub_self))⟩
          · rw [if_neg h87] at H
            refine EL.keep [0, 1, 2, 42] [(0, .int .i32 a4), (1, .int .i32 a5), (2, .int .i32 a6), (42, .bool (decide (t83 = t85)))] (by kernel_rfl) ?_
            refine EL.as' [(0, .int .i32 a4), (1, .int .i32 a5), (2, .int .i32 a6), (42, .bool (false))] (by simp only [dec_f h87, Bool.not_true, Bool.not_false]) ?_
            refine EL.quick 37 [6] [(6, .bool (false))] (by kernel_rfl) ?_
            refine EL.done (by kernel_rfl) ?_
            refine EQ.code ?_
            refine EW.ret (by kernel_rfl) ?_
            obtain rfl := Option.some.inj H
            exact EQ.leave (.bool (false)) (by kernel_rfl) ⟨_, rfl, rfl, (hS.re [] [] rfl (sub_self))⟩
        · rw [if_neg h82] at H
          refine EL.keep [0, 1, 2, 33] [(0, .int .i32 a4), (1, .int .i32 a5), (2, .int .i32 a6), (33, .bool (decide (t80 = 1)))] (by kernel_rfl) ?_
          refine EL.as' [(0, .int .i32 a4), (1, .int .i32 a5), (2, .int .i32 a6), (33, .bool (false))] (by simp only [dec_f h82, Bool.not_true, Bool.not_false]) ?_
          refine EL.quick 46 [6] [(6, .bool (false))] (by kernel_rfl) ?_
          refine EL.done (by kernel_rfl) ?_
          refine EQ.code ?_
          refine EW.ret (by kernel_rfl) ?_
          obtain rfl := Option.some.inj H
          exact EQ.leave (.bool (false)) (by kernel_rfl) ⟨_, rfl, rfl, (hS.re [] [] rfl (sub_self))⟩
      · rw [if_neg h79] at H
        refine EL.keep [0, 1, 2, 27] [(0, .int .i32 a4), (1, .int .i32 a5), (2, .int .i32 a6), (27, .bool (decide (t77 = 0)))] (by kernel_rfl) ?_
        refine EL.as' [(0, .int .i32 a4), (1, .int .i32 a5), (2, .int .i32 a6), (27, .bool (false))] (by simp only [dec_f h79, Bool.not_true, Bool.not_false]) ?_
        refine EL.quick 52 [6] [(6, .bool (false))] (by kernel_rfl) ?_
        refine EL.done (by kernel_rfl) ?_
        refine EQ.code ?_
        refine EW.ret (by kernel_rfl) ?_
        obtain rfl := Option.some.inj H
        exact EQ.leave (.bool (false)) (by kernel_rfl) ⟨_, rfl, rfl, (hS.re [] [] rfl (sub_self))⟩
    · rw [if_neg h76] at H
      refine EL.keep [0, 1, 2, 21] [(0, .int .i32 a4), (1, .int .i32 a5), (2, .int .i32 a6), (21, .bool (decide ((IntKind.i32.wrap ((IntKind.i32.wrap (t70 + t72)) + t74)) = 1)))] (by kernel_rfl) ?_
      refine EL.as' [(0, .int .i32 a4), (1, .int .i32 a5), (2, .int .i32 a6), (21, .bool (false))] (by simp only [dec_f h76, Bool.not_true, Bool.not_false]) ?_
      refine EL.quick 58 [6] [(6, .bool (false))] (by kernel_rfl) ?_
      refine EL.done (by kernel_rfl) ?_
      refine EQ.code ?_
      refine EW.ret (by kernel_rfl) ?_
      obtain rfl := Option.some.inj H
      exact EQ.leave (.bool (false)) (by kernel_rfl) ⟨_, rfl, rfl, (hS.re [] [] rfl (sub_self))⟩
  · rw [if_neg h69] at H
    refine EW.seq (x := C11.r.l.r.l.l) (y := C11.r.l.r.l.r) (by kernel_rfl) ?_
    refine EW.region (id := 2) (ops := C11.r.l.r.l.l.ops) (by kernel_rfl) ?_
    refine EL.quick 1 [6] [(6, .bool (false))] (by kernel_rfl) ?_
    refine EL.done (by kernel_rfl) ?_
    refine EQ.code ?_
    refine EW.ret (by kernel_rfl) ?_
    refine EQ.ret ?_
    obtain rfl := Option.some.inj H
    exact EQ.leave (.bool (false)) (by kernel_rfl) ⟨_, rfl, rfl, (hS.re [] [] rfl (sub_self))⟩

def confidantlaw9_WordOrders.Pure : Prop := ∀ (a4 : Int) (a5 : Int) (a6 : Int), (Lit.int .i32 a4).wf = true → (Lit.int .i32 a5).wf = true → (Lit.int .i32 a6).wf = true → ∃ K, confidantlaw9_WordOrders.f K a4 a5 a6 = some true

end Go.Proofs.Ytepokhmomojcmaa.G
