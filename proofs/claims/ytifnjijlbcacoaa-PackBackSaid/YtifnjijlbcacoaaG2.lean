import Derived.Test.YtifnjijlbcacoaaG1
namespace Go.Proofs.Ytifnjijlbcacoaa.G
open Go Go.Fw Go.RowKit Go.Proofs
set_option linter.unusedVariables false
set_option linter.unusedSimpArgs false

/-! ### confidant/confidantlaw1.known: function 19 -/
def confidantlaw1_known.f (K : Nat)  : Option Bool := lt ([300, 0] : List Int) fun l11150 => (b1 (pack_Put.f K l11150) fun (t11151 : List Int) => (lt ([97, 98] : List Int) fun l11156 => (b1 (pack_Lump.f K l11156) fun (t11157 : List Int) => (if (t11151.length + t11157.length) * 1 ≤ 140737488355328 then (lt (t11151 ++ t11157) fun l11162 => (lt ([128] : List Int) fun l11166 => (if (l11162.length + l11166.length) * 1 ≤ 140737488355328 then (lt (l11162 ++ l11166) fun l11168 => (b2 (pack_New.f K l11168) fun (t11171 : List Int) (t11172 : Int) => (b3 (pack_Reader_Num.f K t11171 t11172 300) fun (t11197 : List Int) (t11198 : Int) (t11199 : Int) => (b3 (pack_Reader_Num.f K t11197 t11198 9) fun (t11203 : List Int) (t11204 : Int) (t11205 : Int) => (b3 (pack_Reader_Lump.f K t11203 t11204 2) fun (t11209 : List Int) (t11210 : Int) (t11211 : List Int) => (b3 (pack_Reader_Left.f K t11209 t11210) fun (t11223 : List Int) (t11224 : Int) (t11225 : Int) => (b3 (pack_Reader_Num.f K t11223 t11224 9) fun (t11235 : List Int) (t11236 : Int) (t11237 : Int) => (lt ([300] : List Int) fun l11242 => (b1 (pack_Put.f K l11242) fun (t11243 : List Int) => (if ((bStr t11243).toList == (⟨#[130, 44]⟩ : ByteArray).toList) = true then (if t11199 = 300 then (if t11205 = 0 then (if ((bStr t11211).toList == (⟨#[97, 98]⟩ : ByteArray).toList) = true then (if t11225 = 1 then (if t11237 = 0 then (b3 (pack_Reader_Err.f K t11235 t11236) fun (t11253 : List Int) (t11254 : Int) (t11255 : Int) => (if t11255 = 20 then (b3 (pack_Reader_Left.f K t11253 t11254) fun (t11260 : List Int) (t11261 : Int) (t11262 : Int) => (some (decide (t11262 = 0)))) else (some false))) else (some false)) else (some false)) else (some false)) else (some false)) else (some false)) else (some false))))))))))) else none))) else none))))
set_option maxRecDepth 100000 in
theorem confidantlaw1_known.calls {K : Nat} {x11120 : Bool} {B w : World} {os : List Ass} {rs : List Ro} (H : confidantlaw1_known.f K = some x11120) (hS : St B w (os) (rs)) :
    Calls Try.prog 19 [].toArray w (fun en w' => ∃ v, en = .returned v ∧ v = .bool (x11120) ∧ St B w' (os) (rs)) := by
  unfold confidantlaw1_known.f at H
  refine calls_of_EW (args := []) (c := Cd19) 63 Try.func19 (by kernel_rfl) (by kernel_rfl) (by kernel_rfl) ?_
  refine EW.seq (x := Cd19.l) (y := Cd19.r) (by kernel_rfl) ?_
  refine EW.region (id := 0) (ops := Cd19.l.ops) (by kernel_rfl) ?_
  refine EL.quick 1 [] [] (by kernel_rfl) ?_
  refine EL.done (by kernel_rfl) ?_
  refine EQ.code ?_
  refine EW.seq (x := Cd19.r.l) (y := Cd19.r.r) (by kernel_rfl) ?_
  refine EW.region (id := 1) (ops := Cd19.r.l.ops) (by kernel_rfl) ?_
  obtain ⟨l11150, hl11150, H⟩ := lt_out H
  refine EL.of (EO.lit hS (Kd.int .u64) 23 36 2 #[(0, .int .u64 300), (1, .int .u64 0)] [.int .u64 300, .int .u64 0] l11150 7 (by kernel_rfl) (by kernel_rfl) (by kernel_rfl) (fun _ => (by kernel_rfl)) (by rw [hl11150]; rfl) (by kernel_rfl) (fun w G hr => (by rw [hl11150]; exact ⟨[.int .u64 300], [.int .u64 0], rfl, rfl, ⟨[.int .u64 0], [], rfl, rfl, rfl⟩⟩)) ?_)
  intro g11149 w hS
  have hS := St.fr hS 0 rfl
  have hS : St B _ (os) (Ro.sl (Kd.int .u64) (some ⟨g11149, 0, none⟩) 2 l11150 :: Ro.sl (Kd.int .u64) (some ⟨g11149, 0, none⟩) 2 l11150 :: rs) := hS.re [] [] rfl (sub_cons 0 rfl sub_self)
  obtain ⟨t11151, hc11154, H⟩ := b1_out H
  refine EL.of (EO.callD 22 [.slice (some ⟨g11149, 0, none⟩) l11150.length 2] _ 8 (by kernel_rfl) (by kernel_rfl) (by kernel_rfl) (pack_Put.calls hc11154 hS) ?_)
  rintro v w ⟨A11152, C11153, rfl, hS⟩
  obtain ⟨l11156, hl11156, H⟩ := lt_out H
  refine EL.of (EO.lit hS (Kd.int .u8) 5 22 2 #[(0, .int .u8 97), (1, .int .u8 98)] [.int .u8 97, .int .u8 98] l11156 9 (by kernel_rfl) (by kernel_rfl) (by kernel_rfl) (fun _ => (by kernel_rfl)) (by rw [hl11156]; rfl) (by kernel_rfl) (fun w G hr => (by rw [hl11156]; exact ⟨[.int .u8 97], [.int .u8 98], rfl, rfl, ⟨[.int .u8 98], [], rfl, rfl, rfl⟩⟩)) ?_)
  intro g11155 w hS
  refine EL.of (EO.mark hS 0 5 ⟨g11155, 0, none⟩ 2 l11156 rfl 22 5 10 (by kernel_rfl) (by kernel_rfl) (by kernel_rfl) (by kernel_rfl) (by kernel_rfl) ?_)
  intro w hS
  have hS : St B _ (Ass.own 5 (Kd.int .u8) A11152 C11153 t11151 :: os) (Ro.sl (Kd.int .u8) (some ⟨g11155, 0, none⟩) 2 l11156 :: Ro.sl (Kd.int .u8) (some ⟨g11155, 0, none⟩) 2 l11156 :: Ro.sl (Kd.int .u64) (some ⟨g11149, 0, none⟩) 2 l11150 :: Ro.sl (Kd.int .u64) (some ⟨g11149, 0, none⟩) 2 l11150 :: rs) := hS.re [] [] rfl (sub_cons 0 rfl sub_self)
  obtain ⟨t11157, hc11160, H⟩ := b1_out H
  refine EL.of (EO.callD 20 [.slice (some ⟨g11155, 0, none⟩) l11156.length 2] _ 11 (by kernel_rfl) (by kernel_rfl) (by kernel_rfl) (pack_Lump.calls hc11160 hS) ?_)
  rintro v w ⟨A11158, C11159, rfl, hS⟩
  obtain ⟨h11161, H⟩ := ite_in H
  obtain ⟨l11162, hl11162, H⟩ := lt_out H
  refine EL.of (EO.append hS 22 22 5 1 1 (Kd.int .u8) A11152 C11153 t11151 rfl A11158 C11159 t11157 (Rd.own 0 5 rfl) l11162 hl11162 (fun A11163 C11164 => Ass.own 5 (Kd.int .u8) A11158 C11159 t11157 :: Ass.own 5 (Kd.int .u8) A11163 C11164 l11162 :: os) 12 (by kernel_rfl) (by kernel_rfl) (by kernel_rfl) (by kernel_rfl) h11161 (fun _ _ => rfl) ?_)
  intro A11163 C11164 w hS
  obtain ⟨l11166, hl11166, H⟩ := lt_out H
  refine EL.of (EO.lit hS (Kd.int .u8) 5 22 1 #[(0, .int .u8 128)] [.int .u8 128] l11166 13 (by kernel_rfl) (by kernel_rfl) (by kernel_rfl) (fun _ => (by kernel_rfl)) (by rw [hl11166]; rfl) (by kernel_rfl) (fun w G hr => (by rw [hl11166]; exact ⟨[.int .u8 128], [], rfl, rfl, rfl⟩)) ?_)
  intro g11165 w hS
  obtain ⟨h11167, H⟩ := ite_in H
  obtain ⟨l11168, hl11168, H⟩ := lt_out H
  refine EL.of (EO.append hS 22 22 5 1 2 (Kd.int .u8) A11163 C11164 l11162 rfl (some ⟨g11165, 0, none⟩) 1 l11166 (Rd.own 0 5 rfl) l11168 hl11168 (fun A11169 C11170 => Ass.own 5 (Kd.int .u8) (some ⟨g11165, 0, none⟩) 1 l11166 :: Ass.own 5 (Kd.int .u8) A11158 C11159 t11157 :: Ass.own 5 (Kd.int .u8) A11169 C11170 l11168 :: os) 14 (by kernel_rfl) (by kernel_rfl) (by kernel_rfl) (by kernel_rfl) h11167 (fun _ _ => rfl) ?_)
  intro A11169 C11170 w hS
  have hS := St.fr hS 2 rfl
  have hS : St B _ (Ass.own 5 (Kd.int .u8) (some ⟨g11165, 0, none⟩) 1 l11166 :: Ass.own 5 (Kd.int .u8) A11158 C11159 t11157 :: os) (Ro.sl (Kd.int .u8) A11169 C11170 l11168 :: Ro.sl (Kd.int .u8) A11169 C11170 l11168 :: Ro.sl (Kd.int .u8) (some ⟨g11155, 0, none⟩) 2 l11156 :: Ro.sl (Kd.int .u8) (some ⟨g11155, 0, none⟩) 2 l11156 :: Ro.sl (Kd.int .u64) (some ⟨g11149, 0, none⟩) 2 l11150 :: Ro.sl (Kd.int .u64) (some ⟨g11149, 0, none⟩) 2 l11150 :: rs) := hS.re [] [] rfl (sub_cons 0 rfl sub_self)
  obtain ⟨t11171, t11172, hc11176, H⟩ := b2_out H
  refine EL.of (EO.callD 25 [.slice A11169 l11168.length C11170] _ 15 (by kernel_rfl) (by kernel_rfl) (by kernel_rfl) (pack_New.calls hc11176 hS) ?_)
  rintro v w ⟨g11173, A11174, C11175, rfl, hS⟩
  refine EL.quick 1 [1] [(1, .pointer (some ⟨g11173, 0, none⟩))] (by kernel_rfl) ?_
  refine EL.done (by kernel_rfl) ?_
  refine EQ.code ?_
  refine EW.seq (x := Cd19.r.r.l) (y := Cd19.r.r.r) (by kernel_rfl) ?_
  refine EW.seq (x := Cd19.r.r.l.l) (y := Cd19.r.r.l.r) (by kernel_rfl) ?_
  refine EW.region (id := 2) (ops := Cd19.r.r.l.l.ops) (by kernel_rfl) ?_
  refine EL.quick 2 [1, 17] [(1, .pointer (some ⟨g11173, 0, none⟩)), (17, .bool (false))] (by kernel_rfl) ?_
  refine EL.done (by kernel_rfl) ?_
  refine EQ.code ?_
  refine EW.condF (o := (.tmp 17)) (x := Cd19.r.r.l.r.l) (y := Cd19.r.r.l.r.r) (by kernel_rfl) (by kernel_rfl) ?_
  refine EW.skip (by kernel_rfl) ?_
  refine EQ.code ?_
  refine EW.seq (x := Cd19.r.r.r.l) (y := Cd19.r.r.r.r) (by kernel_rfl) ?_
  refine EW.region (id := 4) (ops := Cd19.r.r.r.l.ops) (by kernel_rfl) ?_
  refine EL.quick 1 [1, 18] [(1, .pointer (some ⟨g11173, 0, none⟩)), (18, .pointer (some ⟨g11173, 0, none⟩))] (by kernel_rfl) ?_
  have hS : St B _ (Ass.box 91 g11173 [.slice A11174 t11171.length C11175, .int .i64 t11172] :: Ass.own 5 (Kd.int .u8) (some ⟨g11165, 0, none⟩) 1 l11166 :: Ass.own 5 (Kd.int .u8) A11158 C11159 t11157 :: os) (Ro.sl (Kd.int .u8) A11174 C11175 t11171 :: Ro.sl (Kd.int .u8) A11174 C11175 t11171 :: Ro.sl (Kd.int .u8) A11169 C11170 l11168 :: Ro.sl (Kd.int .u8) A11169 C11170 l11168 :: Ro.sl (Kd.int .u8) (some ⟨g11155, 0, none⟩) 2 l11156 :: Ro.sl (Kd.int .u8) (some ⟨g11155, 0, none⟩) 2 l11156 :: Ro.sl (Kd.int .u64) (some ⟨g11149, 0, none⟩) 2 l11150 :: Ro.sl (Kd.int .u64) (some ⟨g11149, 0, none⟩) 2 l11150 :: rs) := hS.re [0] [] rfl (sub_cons 0 rfl sub_self)
  obtain ⟨t11197, t11198, t11199, hc11202, H⟩ := b3_out H
  refine EL.of (EO.callD 28 [.pointer (some ⟨g11173, 0, none⟩), .int .u64 300] _ 19 (by kernel_rfl) (by kernel_rfl) (by kernel_rfl) (pack_Reader_Num.calls hc11202 hS) ?_)
  rintro v w ⟨A11200, C11201, rfl, hS⟩
  refine EL.quick 1 [1, 19, 20] [(1, .pointer (some ⟨g11173, 0, none⟩)), (19, .int .u64 t11199), (20, .pointer (some ⟨g11173, 0, none⟩))] (by kernel_rfl) ?_
  have hS : St B _ (Ass.box 91 g11173 [.slice A11200 t11197.length C11201, .int .i64 t11198] :: Ass.own 5 (Kd.int .u8) (some ⟨g11165, 0, none⟩) 1 l11166 :: Ass.own 5 (Kd.int .u8) A11158 C11159 t11157 :: os) (Ro.sl (Kd.int .u8) A11200 C11201 t11197 :: Ro.sl (Kd.int .u8) A11200 C11201 t11197 :: Ro.sl (Kd.int .u8) A11174 C11175 t11171 :: Ro.sl (Kd.int .u8) A11174 C11175 t11171 :: Ro.sl (Kd.int .u8) A11169 C11170 l11168 :: Ro.sl (Kd.int .u8) A11169 C11170 l11168 :: Ro.sl (Kd.int .u8) (some ⟨g11155, 0, none⟩) 2 l11156 :: Ro.sl (Kd.int .u8) (some ⟨g11155, 0, none⟩) 2 l11156 :: Ro.sl (Kd.int .u64) (some ⟨g11149, 0, none⟩) 2 l11150 :: Ro.sl (Kd.int .u64) (some ⟨g11149, 0, none⟩) 2 l11150 :: rs) := hS.re [0] [] rfl (sub_cons 0 rfl sub_self)
  obtain ⟨t11203, t11204, t11205, hc11208, H⟩ := b3_out H
  refine EL.of (EO.callD 28 [.pointer (some ⟨g11173, 0, none⟩), .int .u64 9] _ 21 (by kernel_rfl) (by kernel_rfl) (by kernel_rfl) (pack_Reader_Num.calls hc11208 hS) ?_)
  rintro v w ⟨A11206, C11207, rfl, hS⟩
  refine EL.quick 1 [1, 19, 21, 22] [(1, .pointer (some ⟨g11173, 0, none⟩)), (19, .int .u64 t11199), (21, .int .u64 t11205), (22, .pointer (some ⟨g11173, 0, none⟩))] (by kernel_rfl) ?_
  have hS : St B _ (Ass.box 91 g11173 [.slice A11206 t11203.length C11207, .int .i64 t11204] :: Ass.own 5 (Kd.int .u8) (some ⟨g11165, 0, none⟩) 1 l11166 :: Ass.own 5 (Kd.int .u8) A11158 C11159 t11157 :: os) (Ro.sl (Kd.int .u8) A11206 C11207 t11203 :: Ro.sl (Kd.int .u8) A11206 C11207 t11203 :: Ro.sl (Kd.int .u8) A11200 C11201 t11197 :: Ro.sl (Kd.int .u8) A11200 C11201 t11197 :: Ro.sl (Kd.int .u8) A11174 C11175 t11171 :: Ro.sl (Kd.int .u8) A11174 C11175 t11171 :: Ro.sl (Kd.int .u8) A11169 C11170 l11168 :: Ro.sl (Kd.int .u8) A11169 C11170 l11168 :: Ro.sl (Kd.int .u8) (some ⟨g11155, 0, none⟩) 2 l11156 :: Ro.sl (Kd.int .u8) (some ⟨g11155, 0, none⟩) 2 l11156 :: Ro.sl (Kd.int .u64) (some ⟨g11149, 0, none⟩) 2 l11150 :: Ro.sl (Kd.int .u64) (some ⟨g11149, 0, none⟩) 2 l11150 :: rs) := hS.re [0] [] rfl (sub_cons 0 rfl sub_self)
  obtain ⟨t11209, t11210, t11211, hc11216, H⟩ := b3_out H
  refine EL.of (EO.callD 26 [.pointer (some ⟨g11173, 0, none⟩), .int .i64 2] _ 23 (by kernel_rfl) (by kernel_rfl) (by kernel_rfl) (pack_Reader_Lump.calls hc11216 hS) ?_)
  rintro v w ⟨A11212, C11213, A11214, C11215, rfl, hS⟩
  refine EL.quick 3 [1, 2, 3, 4] [(1, .pointer (some ⟨g11173, 0, none⟩)), (2, .int .u64 t11199), (3, .int .u64 t11205), (4, .slice A11214 t11211.length C11215)] (by kernel_rfl) ?_
  refine EL.done (by kernel_rfl) ?_
  refine EQ.code ?_
  refine EW.seq (x := Cd19.r.r.r.r.l) (y := Cd19.r.r.r.r.r) (by kernel_rfl) ?_
  refine EW.region (id := 5) (ops := Cd19.r.r.r.r.l.ops) (by kernel_rfl) ?_
  refine EL.quick 1 [1, 2, 3, 4, 24] [(1, .pointer (some ⟨g11173, 0, none⟩)), (2, .int .u64 t11199), (3, .int .u64 t11205), (4, .slice A11214 t11211.length C11215), (24, .pointer (some ⟨g11173, 0, none⟩))] (by kernel_rfl) ?_
  have hS : St B _ (Ass.box 91 g11173 [.slice A11212 t11209.length C11213, .int .i64 t11210] :: Ass.own 5 (Kd.int .u8) A11214 C11215 t11211 :: Ass.own 5 (Kd.int .u8) (some ⟨g11165, 0, none⟩) 1 l11166 :: Ass.own 5 (Kd.int .u8) A11158 C11159 t11157 :: os) (Ro.sl (Kd.int .u8) A11212 C11213 t11209 :: Ro.sl (Kd.int .u8) A11212 C11213 t11209 :: Ro.sl (Kd.int .u8) A11206 C11207 t11203 :: Ro.sl (Kd.int .u8) A11206 C11207 t11203 :: Ro.sl (Kd.int .u8) A11200 C11201 t11197 :: Ro.sl (Kd.int .u8) A11200 C11201 t11197 :: Ro.sl (Kd.int .u8) A11174 C11175 t11171 :: Ro.sl (Kd.int .u8) A11174 C11175 t11171 :: Ro.sl (Kd.int .u8) A11169 C11170 l11168 :: Ro.sl (Kd.int .u8) A11169 C11170 l11168 :: Ro.sl (Kd.int .u8) (some ⟨g11155, 0, none⟩) 2 l11156 :: Ro.sl (Kd.int .u8) (some ⟨g11155, 0, none⟩) 2 l11156 :: Ro.sl (Kd.int .u64) (some ⟨g11149, 0, none⟩) 2 l11150 :: Ro.sl (Kd.int .u64) (some ⟨g11149, 0, none⟩) 2 l11150 :: rs) := hS.re [0] [] rfl (sub_cons 0 rfl sub_self)
  obtain ⟨t11223, t11224, t11225, hc11228, H⟩ := b3_out H
  refine EL.of (EO.callD 31 [.pointer (some ⟨g11173, 0, none⟩)] _ 25 (by kernel_rfl) (by kernel_rfl) (by kernel_rfl) (pack_Reader_Left.calls hc11228 hS) ?_)
  rintro v w ⟨A11226, C11227, rfl, hS⟩
  refine EL.quick 1 [1, 2, 3, 4, 5] [(1, .pointer (some ⟨g11173, 0, none⟩)), (2, .int .u64 t11199), (3, .int .u64 t11205), (4, .slice A11214 t11211.length C11215), (5, .int .i64 t11225)] (by kernel_rfl) ?_
  refine EL.done (by kernel_rfl) ?_
  refine EQ.code ?_
  refine EW.seq (x := Cd19.r.r.r.r.r.l) (y := Cd19.r.r.r.r.r.r) (by kernel_rfl) ?_
  refine EW.region (id := 6) (ops := Cd19.r.r.r.r.r.l.ops) (by kernel_rfl) ?_
  refine EL.quick 1 [1, 2, 3, 4, 5, 26] [(1, .pointer (some ⟨g11173, 0, none⟩)), (2, .int .u64 t11199), (3, .int .u64 t11205), (4, .slice A11214 t11211.length C11215), (5, .int .i64 t11225), (26, .pointer (some ⟨g11173, 0, none⟩))] (by kernel_rfl) ?_
  have hS : St B _ (Ass.box 91 g11173 [.slice A11226 t11223.length C11227, .int .i64 t11224] :: Ass.own 5 (Kd.int .u8) A11214 C11215 t11211 :: Ass.own 5 (Kd.int .u8) (some ⟨g11165, 0, none⟩) 1 l11166 :: Ass.own 5 (Kd.int .u8) A11158 C11159 t11157 :: os) (Ro.sl (Kd.int .u8) A11226 C11227 t11223 :: Ro.sl (Kd.int .u8) A11226 C11227 t11223 :: Ro.sl (Kd.int .u8) A11212 C11213 t11209 :: Ro.sl (Kd.int .u8) A11212 C11213 t11209 :: Ro.sl (Kd.int .u8) A11206 C11207 t11203 :: Ro.sl (Kd.int .u8) A11206 C11207 t11203 :: Ro.sl (Kd.int .u8) A11200 C11201 t11197 :: Ro.sl (Kd.int .u8) A11200 C11201 t11197 :: Ro.sl (Kd.int .u8) A11174 C11175 t11171 :: Ro.sl (Kd.int .u8) A11174 C11175 t11171 :: Ro.sl (Kd.int .u8) A11169 C11170 l11168 :: Ro.sl (Kd.int .u8) A11169 C11170 l11168 :: Ro.sl (Kd.int .u8) (some ⟨g11155, 0, none⟩) 2 l11156 :: Ro.sl (Kd.int .u8) (some ⟨g11155, 0, none⟩) 2 l11156 :: Ro.sl (Kd.int .u64) (some ⟨g11149, 0, none⟩) 2 l11150 :: Ro.sl (Kd.int .u64) (some ⟨g11149, 0, none⟩) 2 l11150 :: rs) := hS.re [0] [] rfl (sub_cons 0 rfl sub_self)
  obtain ⟨t11235, t11236, t11237, hc11240, H⟩ := b3_out H
  refine EL.of (EO.callD 28 [.pointer (some ⟨g11173, 0, none⟩), .int .u64 9] _ 27 (by kernel_rfl) (by kernel_rfl) (by kernel_rfl) (pack_Reader_Num.calls hc11240 hS) ?_)
  rintro v w ⟨A11238, C11239, rfl, hS⟩
  refine EL.quick 1 [1, 2, 3, 4, 5, 6] [(1, .pointer (some ⟨g11173, 0, none⟩)), (2, .int .u64 t11199), (3, .int .u64 t11205), (4, .slice A11214 t11211.length C11215), (5, .int .i64 t11225), (6, .int .u64 t11237)] (by kernel_rfl) ?_
  refine EL.done (by kernel_rfl) ?_
  refine EQ.code ?_
  refine EW.seq (x := Cd19.r.r.r.r.r.r.l) (y := Cd19.r.r.r.r.r.r.r) (by kernel_rfl) ?_
  refine EW.region (id := 7) (ops := Cd19.r.r.r.r.r.r.l.ops) (by kernel_rfl) ?_
  obtain ⟨l11242, hl11242, H⟩ := lt_out H
  refine EL.of (EO.lit hS (Kd.int .u64) 23 36 1 #[(0, .int .u64 300)] [.int .u64 300] l11242 28 (by kernel_rfl) (by kernel_rfl) (by kernel_rfl) (fun _ => (by kernel_rfl)) (by rw [hl11242]; rfl) (by kernel_rfl) (fun w G hr => (by rw [hl11242]; exact ⟨[.int .u64 300], [], rfl, rfl, rfl⟩)) ?_)
  intro g11241 w hS
  have hS := St.fr hS 0 rfl
  have hS : St B _ (Ass.box 91 g11173 [.slice A11238 t11235.length C11239, .int .i64 t11236] :: Ass.own 5 (Kd.int .u8) A11214 C11215 t11211 :: Ass.own 5 (Kd.int .u8) (some ⟨g11165, 0, none⟩) 1 l11166 :: Ass.own 5 (Kd.int .u8) A11158 C11159 t11157 :: os) (Ro.sl (Kd.int .u64) (some ⟨g11241, 0, none⟩) 1 l11242 :: Ro.sl (Kd.int .u64) (some ⟨g11241, 0, none⟩) 1 l11242 :: Ro.sl (Kd.int .u8) A11238 C11239 t11235 :: Ro.sl (Kd.int .u8) A11226 C11227 t11223 :: Ro.sl (Kd.int .u8) A11226 C11227 t11223 :: Ro.sl (Kd.int .u8) A11212 C11213 t11209 :: Ro.sl (Kd.int .u8) A11212 C11213 t11209 :: Ro.sl (Kd.int .u8) A11206 C11207 t11203 :: Ro.sl (Kd.int .u8) A11206 C11207 t11203 :: Ro.sl (Kd.int .u8) A11200 C11201 t11197 :: Ro.sl (Kd.int .u8) A11200 C11201 t11197 :: Ro.sl (Kd.int .u8) A11174 C11175 t11171 :: Ro.sl (Kd.int .u8) A11174 C11175 t11171 :: Ro.sl (Kd.int .u8) A11169 C11170 l11168 :: Ro.sl (Kd.int .u8) A11169 C11170 l11168 :: Ro.sl (Kd.int .u8) (some ⟨g11155, 0, none⟩) 2 l11156 :: Ro.sl (Kd.int .u8) (some ⟨g11155, 0, none⟩) 2 l11156 :: Ro.sl (Kd.int .u64) (some ⟨g11149, 0, none⟩) 2 l11150 :: Ro.sl (Kd.int .u64) (some ⟨g11149, 0, none⟩) 2 l11150 :: rs) := hS.re [] [] rfl (sub_cons 0 rfl sub_self)
  obtain ⟨t11243, hc11246, H⟩ := b1_out H
  refine EL.of (EO.callD 22 [.slice (some ⟨g11241, 0, none⟩) l11242.length 1] _ 29 (by kernel_rfl) (by kernel_rfl) (by kernel_rfl) (pack_Put.calls hc11246 hS) ?_)
  rintro v w ⟨A11244, C11245, rfl, hS⟩
  refine EL.of (EO.Y (YO.bstr hS A11244 C11245 t11243 (Rd.own 0 5 rfl) 22 9 5 30 (by kernel_rfl) (by kernel_rfl) (by kernel_rfl) (by kernel_rfl) (by kernel_rfl) (by kernel_rfl)) ?_)
  refine EL.quick 2 [1, 2, 3, 4, 5, 6, 32] [(1, .pointer (some ⟨g11173, 0, none⟩)), (2, .int .u64 t11199), (3, .int .u64 t11205), (4, .slice A11214 t11211.length C11215), (5, .int .i64 t11225), (6, .int .u64 t11237), (32, .bool (((bStr t11243).toList == (⟨#[130, 44]⟩ : ByteArray).toList)))] (by kernel_rfl) ?_
  by_cases h11247 : ((bStr t11243).toList == (⟨#[130, 44]⟩ : ByteArray).toList) = true
  · rw [if_pos h11247] at H
    refine EL.keep [1, 2, 3, 4, 5, 6, 32] [(1, .pointer (some ⟨g11173, 0, none⟩)), (2, .int .u64 t11199), (3, .int .u64 t11205), (4, .slice A11214 t11211.length C11215), (5, .int .i64 t11225), (6, .int .u64 t11237), (32, .bool (((bStr t11243).toList == (⟨#[130, 44]⟩ : ByteArray).toList)))] (by kernel_rfl) ?_
    refine EL.as' [(1, .pointer (some ⟨g11173, 0, none⟩)), (2, .int .u64 t11199), (3, .int .u64 t11205), (4, .slice A11214 t11211.length C11215), (5, .int .i64 t11225), (6, .int .u64 t11237), (32, .bool (true))] (by simp only [h11247, Bool.not_true, Bool.not_false]) ?_
    refine EL.quick 4 [1, 3, 4, 5, 6, 36] [(1, .pointer (some ⟨g11173, 0, none⟩)), (3, .int .u64 t11205), (4, .slice A11214 t11211.length C11215), (5, .int .i64 t11225), (6, .int .u64 t11237), (36, .bool (decide (t11199 = 300)))] (by kernel_rfl) ?_
    by_cases h11248 : t11199 = 300
    · rw [if_pos h11248] at H
      refine EL.keep [1, 3, 4, 5, 6, 36] [(1, .pointer (some ⟨g11173, 0, none⟩)), (3, .int .u64 t11205), (4, .slice A11214 t11211.length C11215), (5, .int .i64 t11225), (6, .int .u64 t11237), (36, .bool (decide (t11199 = 300)))] (by kernel_rfl) ?_
      refine EL.as' [(1, .pointer (some ⟨g11173, 0, none⟩)), (3, .int .u64 t11205), (4, .slice A11214 t11211.length C11215), (5, .int .i64 t11225), (6, .int .u64 t11237), (36, .bool (true))] (by simp only [dec_t h11248, Bool.not_true, Bool.not_false]) ?_
      refine EL.quick 4 [1, 4, 5, 6, 40] [(1, .pointer (some ⟨g11173, 0, none⟩)), (4, .slice A11214 t11211.length C11215), (5, .int .i64 t11225), (6, .int .u64 t11237), (40, .bool (decide (t11205 = 0)))] (by kernel_rfl) ?_
      by_cases h11249 : t11205 = 0
      · rw [if_pos h11249] at H
        refine EL.keep [1, 4, 5, 6, 40] [(1, .pointer (some ⟨g11173, 0, none⟩)), (4, .slice A11214 t11211.length C11215), (5, .int .i64 t11225), (6, .int .u64 t11237), (40, .bool (decide (t11205 = 0)))] (by kernel_rfl) ?_
        refine EL.as' [(1, .pointer (some ⟨g11173, 0, none⟩)), (4, .slice A11214 t11211.length C11215), (5, .int .i64 t11225), (6, .int .u64 t11237), (40, .bool (true))] (by simp only [dec_t h11249, Bool.not_true, Bool.not_false]) ?_
        refine EL.quick 1 [1, 5, 6, 40, 41] [(1, .pointer (some ⟨g11173, 0, none⟩)), (5, .int .i64 t11225), (6, .int .u64 t11237), (40, .bool (true)), (41, .slice A11214 t11211.length C11215)] (by kernel_rfl) ?_
        refine EL.of (EO.Y (YO.bstr hS A11214 C11215 t11211 (Rd.own 2 5 rfl) 22 9 5 42 (by kernel_rfl) (by kernel_rfl) (by kernel_rfl) (by kernel_rfl) (by kernel_rfl) (by kernel_rfl)) ?_)
        refine EL.quick 3 [1, 5, 6, 45] [(1, .pointer (some ⟨g11173, 0, none⟩)), (5, .int .i64 t11225), (6, .int .u64 t11237), (45, .bool (((bStr t11211).toList == (⟨#[97, 98]⟩ : ByteArray).toList)))] (by kernel_rfl) ?_
        by_cases h11250 : ((bStr t11211).toList == (⟨#[97, 98]⟩ : ByteArray).toList) = true
        · rw [if_pos h11250] at H
          refine EL.keep [1, 5, 6, 45] [(1, .pointer (some ⟨g11173, 0, none⟩)), (5, .int .i64 t11225), (6, .int .u64 t11237), (45, .bool (((bStr t11211).toList == (⟨#[97, 98]⟩ : ByteArray).toList)))] (by kernel_rfl) ?_
          refine EL.as' [(1, .pointer (some ⟨g11173, 0, none⟩)), (5, .int .i64 t11225), (6, .int .u64 t11237), (45, .bool (true))] (by simp only [h11250, Bool.not_true, Bool.not_false]) ?_
          refine EL.quick 4 [1, 6, 49] [(1, .pointer (some ⟨g11173, 0, none⟩)), (6, .int .u64 t11237), (49, .bool (decide (t11225 = 1)))] (by kernel_rfl) ?_
          by_cases h11251 : t11225 = 1
          · rw [if_pos h11251] at H
            refine EL.keep [1, 6, 49] [(1, .pointer (some ⟨g11173, 0, none⟩)), (6, .int .u64 t11237), (49, .bool (decide (t11225 = 1)))] (by kernel_rfl) ?_
            refine EL.as' [(1, .pointer (some ⟨g11173, 0, none⟩)), (6, .int .u64 t11237), (49, .bool (true))] (by simp only [dec_t h11251, Bool.not_true, Bool.not_false]) ?_
            refine EL.quick 4 [1, 53] [(1, .pointer (some ⟨g11173, 0, none⟩)), (53, .bool (decide (t11237 = 0)))] (by kernel_rfl) ?_
            by_cases h11252 : t11237 = 0
            · rw [if_pos h11252] at H
              refine EL.keep [1, 53] [(1, .pointer (some ⟨g11173, 0, none⟩)), (53, .bool (decide (t11237 = 0)))] (by kernel_rfl) ?_
              refine EL.as' [(1, .pointer (some ⟨g11173, 0, none⟩)), (53, .bool (true))] (by simp only [dec_t h11252, Bool.not_true, Bool.not_false]) ?_
              refine EL.quick 1 [1, 53, 54] [(1, .pointer (some ⟨g11173, 0, none⟩)), (53, .bool (true)), (54, .pointer (some ⟨g11173, 0, none⟩))] (by kernel_rfl) ?_
              have hS : St B _ (Ass.box 91 g11173 [.slice A11238 t11235.length C11239, .int .i64 t11236] :: Ass.own 5 (Kd.int .u8) A11244 C11245 t11243 :: Ass.own 5 (Kd.int .u8) A11214 C11215 t11211 :: Ass.own 5 (Kd.int .u8) (some ⟨g11165, 0, none⟩) 1 l11166 :: Ass.own 5 (Kd.int .u8) A11158 C11159 t11157 :: os) (Ro.sl (Kd.int .u8) A11238 C11239 t11235 :: Ro.sl (Kd.int .u64) (some ⟨g11241, 0, none⟩) 1 l11242 :: Ro.sl (Kd.int .u64) (some ⟨g11241, 0, none⟩) 1 l11242 :: Ro.sl (Kd.int .u8) A11238 C11239 t11235 :: Ro.sl (Kd.int .u8) A11226 C11227 t11223 :: Ro.sl (Kd.int .u8) A11226 C11227 t11223 :: Ro.sl (Kd.int .u8) A11212 C11213 t11209 :: Ro.sl (Kd.int .u8) A11212 C11213 t11209 :: Ro.sl (Kd.int .u8) A11206 C11207 t11203 :: Ro.sl (Kd.int .u8) A11206 C11207 t11203 :: Ro.sl (Kd.int .u8) A11200 C11201 t11197 :: Ro.sl (Kd.int .u8) A11200 C11201 t11197 :: Ro.sl (Kd.int .u8) A11174 C11175 t11171 :: Ro.sl (Kd.int .u8) A11174 C11175 t11171 :: Ro.sl (Kd.int .u8) A11169 C11170 l11168 :: Ro.sl (Kd.int .u8) A11169 C11170 l11168 :: Ro.sl (Kd.int .u8) (some ⟨g11155, 0, none⟩) 2 l11156 :: Ro.sl (Kd.int .u8) (some ⟨g11155, 0, none⟩) 2 l11156 :: Ro.sl (Kd.int .u64) (some ⟨g11149, 0, none⟩) 2 l11150 :: Ro.sl (Kd.int .u64) (some ⟨g11149, 0, none⟩) 2 l11150 :: rs) := hS.re [1] [] rfl (sub_cons 2 rfl sub_self)
              obtain ⟨t11253, t11254, t11255, hc11258, H⟩ := b3_out H
              refine EL.of (EO.callD 30 [.pointer (some ⟨g11173, 0, none⟩)] _ 55 (by kernel_rfl) (by kernel_rfl) (by kernel_rfl) (pack_Reader_Err.calls hc11258 hS) ?_)
              rintro v w ⟨A11256, C11257, rfl, hS⟩
              refine EL.quick 3 [1, 58] [(1, .pointer (some ⟨g11173, 0, none⟩)), (58, .bool (decide (t11255 = 20)))] (by kernel_rfl) ?_
              by_cases h11259 : t11255 = 20
              · rw [if_pos h11259] at H
                refine EL.keep [1, 58] [(1, .pointer (some ⟨g11173, 0, none⟩)), (58, .bool (decide (t11255 = 20)))] (by kernel_rfl) ?_
                refine EL.as' [(1, .pointer (some ⟨g11173, 0, none⟩)), (58, .bool (true))] (by simp only [dec_t h11259, Bool.not_true, Bool.not_false]) ?_
                refine EL.quick 1 [58, 59] [(58, .bool (true)), (59, .pointer (some ⟨g11173, 0, none⟩))] (by kernel_rfl) ?_
                have hS : St B _ (Ass.box 91 g11173 [.slice A11256 t11253.length C11257, .int .i64 t11254] :: Ass.own 5 (Kd.int .u8) A11244 C11245 t11243 :: Ass.own 5 (Kd.int .u8) A11214 C11215 t11211 :: Ass.own 5 (Kd.int .u8) (some ⟨g11165, 0, none⟩) 1 l11166 :: Ass.own 5 (Kd.int .u8) A11158 C11159 t11157 :: os) (Ro.sl (Kd.int .u8) A11256 C11257 t11253 :: Ro.sl (Kd.int .u8) A11256 C11257 t11253 :: Ro.sl (Kd.int .u8) A11238 C11239 t11235 :: Ro.sl (Kd.int .u64) (some ⟨g11241, 0, none⟩) 1 l11242 :: Ro.sl (Kd.int .u64) (some ⟨g11241, 0, none⟩) 1 l11242 :: Ro.sl (Kd.int .u8) A11238 C11239 t11235 :: Ro.sl (Kd.int .u8) A11226 C11227 t11223 :: Ro.sl (Kd.int .u8) A11226 C11227 t11223 :: Ro.sl (Kd.int .u8) A11212 C11213 t11209 :: Ro.sl (Kd.int .u8) A11212 C11213 t11209 :: Ro.sl (Kd.int .u8) A11206 C11207 t11203 :: Ro.sl (Kd.int .u8) A11206 C11207 t11203 :: Ro.sl (Kd.int .u8) A11200 C11201 t11197 :: Ro.sl (Kd.int .u8) A11200 C11201 t11197 :: Ro.sl (Kd.int .u8) A11174 C11175 t11171 :: Ro.sl (Kd.int .u8) A11174 C11175 t11171 :: Ro.sl (Kd.int .u8) A11169 C11170 l11168 :: Ro.sl (Kd.int .u8) A11169 C11170 l11168 :: Ro.sl (Kd.int .u8) (some ⟨g11155, 0, none⟩) 2 l11156 :: Ro.sl (Kd.int .u8) (some ⟨g11155, 0, none⟩) 2 l11156 :: Ro.sl (Kd.int .u64) (some ⟨g11149, 0, none⟩) 2 l11150 :: Ro.sl (Kd.int .u64) (some ⟨g11149, 0, none⟩) 2 l11150 :: rs) := hS.re [0] [] rfl (sub_cons 0 rfl sub_self)
                obtain ⟨t11260, t11261, t11262, hc11265, H⟩ := b3_out H
                refine EL.of (EO.callD 31 [.pointer (some ⟨g11173, 0, none⟩)] _ 60 (by kernel_rfl) (by kernel_rfl) (by kernel_rfl) (pack_Reader_Left.calls hc11265 hS) ?_)
                rintro v w ⟨A11263, C11264, rfl, hS⟩
                refine EL.quick 3 [0] [(0, .bool (decide (t11262 = 0)))] (by kernel_rfl) ?_
                refine EL.done (by kernel_rfl) ?_
                refine EQ.code ?_
                refine EW.ret (by kernel_rfl) ?_
                obtain rfl := Option.some.inj H
                exact EQ.leave (.bool (decide (t11262 = 0))) (by kernel_rfl) ⟨_, rfl, rfl, (hS.re [] [0, 0, 0, 0, 0] rfl (sub_tail (sub_tail (sub_tail (sub_tail (sub_tail (sub_tail (sub_tail (sub_tail (sub_tail (sub_tail (sub_tail (sub_tail (sub_tail (sub_tail (sub_tail (sub_tail (sub_tail (sub_tail (sub_tail (sub_tail (sub_tail (sub_tail (sub_tail (sub_self)))))))))))))))))))))))))⟩
              · rw [if_neg h11259] at H
                refine EL.keep [1, 58] [(1, .pointer (some ⟨g11173, 0, none⟩)), (58, .bool (decide (t11255 = 20)))] (by kernel_rfl) ?_
                refine EL.as' [(1, .pointer (some ⟨g11173, 0, none⟩)), (58, .bool (false))] (by simp only [dec_f h11259, Bool.not_true, Bool.not_false]) ?_
                refine EL.quick 5 [0] [(0, .bool (false))] (by kernel_rfl) ?_
                refine EL.done (by kernel_rfl) ?_
                refine EQ.code ?_
                refine EW.ret (by kernel_rfl) ?_
                obtain rfl := Option.some.inj H
                exact EQ.leave (.bool (false)) (by kernel_rfl) ⟨_, rfl, rfl, (hS.re [] [0, 0, 0, 0, 0] rfl (sub_tail (sub_tail (sub_tail (sub_tail (sub_tail (sub_tail (sub_tail (sub_tail (sub_tail (sub_tail (sub_tail (sub_tail (sub_tail (sub_tail (sub_tail (sub_tail (sub_tail (sub_tail (sub_tail (sub_tail (sub_tail (sub_self)))))))))))))))))))))))⟩
            · rw [if_neg h11252] at H
              refine EL.keep [1, 53] [(1, .pointer (some ⟨g11173, 0, none⟩)), (53, .bool (decide (t11237 = 0)))] (by kernel_rfl) ?_
              refine EL.as' [(1, .pointer (some ⟨g11173, 0, none⟩)), (53, .bool (false))] (by simp only [dec_f h11252, Bool.not_true, Bool.not_false]) ?_
              refine EL.quick 10 [0] [(0, .bool (false))] (by kernel_rfl) ?_
              refine EL.done (by kernel_rfl) ?_
              refine EQ.code ?_
              refine EW.ret (by kernel_rfl) ?_
              obtain rfl := Option.some.inj H
              exact EQ.leave (.bool (false)) (by kernel_rfl) ⟨_, rfl, rfl, (hS.re [] [0, 0, 0, 0, 0] rfl (sub_tail (sub_tail (sub_tail (sub_tail (sub_tail (sub_tail (sub_tail (sub_tail (sub_tail (sub_tail (sub_tail (sub_tail (sub_tail (sub_tail (sub_tail (sub_tail (sub_tail (sub_tail (sub_tail (sub_self)))))))))))))))))))))⟩
          · rw [if_neg h11251] at H
            refine EL.keep [1, 6, 49] [(1, .pointer (some ⟨g11173, 0, none⟩)), (6, .int .u64 t11237), (49, .bool (decide (t11225 = 1)))] (by kernel_rfl) ?_
            refine EL.as' [(1, .pointer (some ⟨g11173, 0, none⟩)), (6, .int .u64 t11237), (49, .bool (false))] (by simp only [dec_f h11251, Bool.not_true, Bool.not_false]) ?_
            refine EL.quick 14 [0] [(0, .bool (false))] (by kernel_rfl) ?_
            refine EL.done (by kernel_rfl) ?_
            refine EQ.code ?_
            refine EW.ret (by kernel_rfl) ?_
            obtain rfl := Option.some.inj H
            exact EQ.leave (.bool (false)) (by kernel_rfl) ⟨_, rfl, rfl, (hS.re [] [0, 0, 0, 0, 0] rfl (sub_tail (sub_tail (sub_tail (sub_tail (sub_tail (sub_tail (sub_tail (sub_tail (sub_tail (sub_tail (sub_tail (sub_tail (sub_tail (sub_tail (sub_tail (sub_tail (sub_tail (sub_tail (sub_tail (sub_self)))))))))))))))))))))⟩
        · rw [if_neg h11250] at H
          refine EL.keep [1, 5, 6, 45] [(1, .pointer (some ⟨g11173, 0, none⟩)), (5, .int .i64 t11225), (6, .int .u64 t11237), (45, .bool (((bStr t11211).toList == (⟨#[97, 98]⟩ : ByteArray).toList)))] (by kernel_rfl) ?_
          refine EL.as' [(1, .pointer (some ⟨g11173, 0, none⟩)), (5, .int .i64 t11225), (6, .int .u64 t11237), (45, .bool (false))] (by simp only [(Bool.eq_false_iff.2 h11250), Bool.not_true, Bool.not_false]) ?_
          refine EL.quick 18 [0] [(0, .bool (false))] (by kernel_rfl) ?_
          refine EL.done (by kernel_rfl) ?_
          refine EQ.code ?_
          refine EW.ret (by kernel_rfl) ?_
          obtain rfl := Option.some.inj H
          exact EQ.leave (.bool (false)) (by kernel_rfl) ⟨_, rfl, rfl, (hS.re [] [0, 0, 0, 0, 0] rfl (sub_tail (sub_tail (sub_tail (sub_tail (sub_tail (sub_tail (sub_tail (sub_tail (sub_tail (sub_tail (sub_tail (sub_tail (sub_tail (sub_tail (sub_tail (sub_tail (sub_tail (sub_tail (sub_tail (sub_self)))))))))))))))))))))⟩
      · rw [if_neg h11249] at H
        refine EL.keep [1, 4, 5, 6, 40] [(1, .pointer (some ⟨g11173, 0, none⟩)), (4, .slice A11214 t11211.length C11215), (5, .int .i64 t11225), (6, .int .u64 t11237), (40, .bool (decide (t11205 = 0)))] (by kernel_rfl) ?_
        refine EL.as' [(1, .pointer (some ⟨g11173, 0, none⟩)), (4, .slice A11214 t11211.length C11215), (5, .int .i64 t11225), (6, .int .u64 t11237), (40, .bool (false))] (by simp only [dec_f h11249, Bool.not_true, Bool.not_false]) ?_
        refine EL.quick 23 [0] [(0, .bool (false))] (by kernel_rfl) ?_
        refine EL.done (by kernel_rfl) ?_
        refine EQ.code ?_
        refine EW.ret (by kernel_rfl) ?_
        obtain rfl := Option.some.inj H
        exact EQ.leave (.bool (false)) (by kernel_rfl) ⟨_, rfl, rfl, (hS.re [] [0, 0, 0, 0, 0] rfl (sub_tail (sub_tail (sub_tail (sub_tail (sub_tail (sub_tail (sub_tail (sub_tail (sub_tail (sub_tail (sub_tail (sub_tail (sub_tail (sub_tail (sub_tail (sub_tail (sub_tail (sub_tail (sub_tail (sub_self)))))))))))))))))))))⟩
    · rw [if_neg h11248] at H
      refine EL.keep [1, 3, 4, 5, 6, 36] [(1, .pointer (some ⟨g11173, 0, none⟩)), (3, .int .u64 t11205), (4, .slice A11214 t11211.length C11215), (5, .int .i64 t11225), (6, .int .u64 t11237), (36, .bool (decide (t11199 = 300)))] (by kernel_rfl) ?_
      refine EL.as' [(1, .pointer (some ⟨g11173, 0, none⟩)), (3, .int .u64 t11205), (4, .slice A11214 t11211.length C11215), (5, .int .i64 t11225), (6, .int .u64 t11237), (36, .bool (false))] (by simp only [dec_f h11248, Bool.not_true, Bool.not_false]) ?_
      refine EL.quick 27 [0] [(0, .bool (false))] (by kernel_rfl) ?_
      refine EL.done (by kernel_rfl) ?_
      refine EQ.code ?_
      refine EW.ret (by kernel_rfl) ?_
      obtain rfl := Option.some.inj H
      exact EQ.leave (.bool (false)) (by kernel_rfl) ⟨_, rfl, rfl, (hS.re [] [0, 0, 0, 0, 0] rfl (sub_tail (sub_tail (sub_tail (sub_tail (sub_tail (sub_tail (sub_tail (sub_tail (sub_tail (sub_tail (sub_tail (sub_tail (sub_tail (sub_tail (sub_tail (sub_tail (sub_tail (sub_tail (sub_tail (sub_self)))))))))))))))))))))⟩
  · rw [if_neg h11247] at H
    refine EL.keep [1, 2, 3, 4, 5, 6, 32] [(1, .pointer (some ⟨g11173, 0, none⟩)), (2, .int .u64 t11199), (3, .int .u64 t11205), (4, .slice A11214 t11211.length C11215), (5, .int .i64 t11225), (6, .int .u64 t11237), (32, .bool (((bStr t11243).toList == (⟨#[130, 44]⟩ : ByteArray).toList)))] (by kernel_rfl) ?_
    refine EL.as' [(1, .pointer (some ⟨g11173, 0, none⟩)), (2, .int .u64 t11199), (3, .int .u64 t11205), (4, .slice A11214 t11211.length C11215), (5, .int .i64 t11225), (6, .int .u64 t11237), (32, .bool (false))] (by simp only [(Bool.eq_false_iff.2 h11247), Bool.not_true, Bool.not_false]) ?_
    refine EL.quick 31 [0] [(0, .bool (false))] (by kernel_rfl) ?_
    refine EL.done (by kernel_rfl) ?_
    refine EQ.code ?_
    refine EW.ret (by kernel_rfl) ?_
    obtain rfl := Option.some.inj H
    exact EQ.leave (.bool (false)) (by kernel_rfl) ⟨_, rfl, rfl, (hS.re [] [0, 0, 0, 0, 0] rfl (sub_tail (sub_tail (sub_tail (sub_tail (sub_tail (sub_tail (sub_tail (sub_tail (sub_tail (sub_tail (sub_tail (sub_tail (sub_tail (sub_tail (sub_tail (sub_tail (sub_tail (sub_tail (sub_tail (sub_self)))))))))))))))))))))⟩

/-! ### confidant/confidantlaw1.edge: function 24 -/
def confidantlaw1_edge.f (K : Nat) (a11276 : Int) (a11277 : Int) : Option Int := lt ([a11276, sR .u64 a11276 32, sR .u64 a11276 57, 0, 1, 127, 128, 16383, 16384, 9223372036854775807, 9223372036854775808, 18446744073709551615] : List Int) fun l11290 => (if (l11290.length : Int) = 0 then none else (if 0 ≤ (Int.tmod (IntKind.i64.wrap a11277) (l11290.length : Int)) then (if (Int.tmod (IntKind.i64.wrap a11277) (l11290.length : Int)) < (l11290.length : Int) then (lt ((l11290.getD (Int.tmod (IntKind.i64.wrap a11277) (l11290.length : Int)).toNat 0)) fun y11294 => (some y11294)) else none) else none))
set_option maxRecDepth 100000 in
theorem confidantlaw1_edge.calls {K : Nat} {a11276 : Int} {a11277 : Int} {x11286 : Int} {B w : World} {os : List Ass} {rs : List Ro} (H : confidantlaw1_edge.f K a11276 a11277 = some x11286) (hS : St B w (os) (rs)) :
    Calls Try.prog 24 [.int .u64 a11276, .int .u8 a11277].toArray w (fun en w' => ∃ v, en = .returned v ∧ v = .int .u64 x11286 ∧ St B w' (os) (rs)) := by
  unfold confidantlaw1_edge.f at H
  refine calls_of_EW (args := [.int .u64 a11276, .int .u8 a11277]) (c := Cd24) 20 Try.func24 (by kernel_rfl) (by kernel_rfl) (by kernel_rfl) ?_
  refine EW.seq (x := Cd24.l) (y := Cd24.r) (by kernel_rfl) ?_
  refine EW.region (id := 0) (ops := Cd24.l.ops) (by kernel_rfl) ?_
  refine EL.quick 1 [0, 1] [(0, .int .u64 a11276), (1, .int .u8 a11277)] (by kernel_rfl) ?_
  refine EL.done (by kernel_rfl) ?_
  refine EQ.code ?_
  refine EW.seq (x := Cd24.r.l) (y := Cd24.r.r) (by kernel_rfl) ?_
  refine EW.region (id := 1) (ops := Cd24.r.l.ops) (by kernel_rfl) ?_
  refine EL.quick 5 [1, 6, 8, 10] [(1, .int .u8 a11277), (6, .int .u64 a11276), (8, .int .u64 (sR .u64 a11276 32)), (10, .int .u64 (sR .u64 a11276 57))] (by kernel_rfl) ?_
  obtain ⟨l11290, hl11290, H⟩ := lt_out H
  refine EL.of (EO.lit hS (Kd.int .u64) 23 36 12 #[(0, .int .u64 a11276), (1, .int .u64 (sR .u64 a11276 32)), (2, .int .u64 (sR .u64 a11276 57)), (3, .int .u64 0), (4, .int .u64 1), (5, .int .u64 127), (6, .int .u64 128), (7, .int .u64 16383), (8, .int .u64 16384), (9, .int .u64 9223372036854775807), (10, .int .u64 9223372036854775808), (11, .int .u64 18446744073709551615)] [.int .u64 a11276, .int .u64 (sR .u64 a11276 32), .int .u64 (sR .u64 a11276 57), .int .u64 0, .int .u64 1, .int .u64 127, .int .u64 128, .int .u64 16383, .int .u64 16384, .int .u64 9223372036854775807, .int .u64 9223372036854775808, .int .u64 18446744073709551615] l11290 11 (by kernel_rfl) (by kernel_rfl) (by kernel_rfl) (fun _ => (by kernel_rfl)) (by rw [hl11290]; rfl) (by kernel_rfl) (fun w G hr => (by rw [hl11290]; exact ⟨[.int .u64 a11276], [.int .u64 (sR .u64 a11276 32), .int .u64 (sR .u64 a11276 57), .int .u64 0, .int .u64 1, .int .u64 127, .int .u64 128, .int .u64 16383, .int .u64 16384, .int .u64 9223372036854775807, .int .u64 9223372036854775808, .int .u64 18446744073709551615], rfl, rfl, ⟨[.int .u64 (sR .u64 a11276 32)], [.int .u64 (sR .u64 a11276 57), .int .u64 0, .int .u64 1, .int .u64 127, .int .u64 128, .int .u64 16383, .int .u64 16384, .int .u64 9223372036854775807, .int .u64 9223372036854775808, .int .u64 18446744073709551615], rfl, rfl, ⟨[.int .u64 (sR .u64 a11276 57)], [.int .u64 0, .int .u64 1, .int .u64 127, .int .u64 128, .int .u64 16383, .int .u64 16384, .int .u64 9223372036854775807, .int .u64 9223372036854775808, .int .u64 18446744073709551615], rfl, rfl, ⟨[.int .u64 0], [.int .u64 1, .int .u64 127, .int .u64 128, .int .u64 16383, .int .u64 16384, .int .u64 9223372036854775807, .int .u64 9223372036854775808, .int .u64 18446744073709551615], rfl, rfl, ⟨[.int .u64 1], [.int .u64 127, .int .u64 128, .int .u64 16383, .int .u64 16384, .int .u64 9223372036854775807, .int .u64 9223372036854775808, .int .u64 18446744073709551615], rfl, rfl, ⟨[.int .u64 127], [.int .u64 128, .int .u64 16383, .int .u64 16384, .int .u64 9223372036854775807, .int .u64 9223372036854775808, .int .u64 18446744073709551615], rfl, rfl, ⟨[.int .u64 128], [.int .u64 16383, .int .u64 16384, .int .u64 9223372036854775807, .int .u64 9223372036854775808, .int .u64 18446744073709551615], rfl, rfl, ⟨[.int .u64 16383], [.int .u64 16384, .int .u64 9223372036854775807, .int .u64 9223372036854775808, .int .u64 18446744073709551615], rfl, rfl, ⟨[.int .u64 16384], [.int .u64 9223372036854775807, .int .u64 9223372036854775808, .int .u64 18446744073709551615], rfl, rfl, ⟨[.int .u64 9223372036854775807], [.int .u64 9223372036854775808, .int .u64 18446744073709551615], rfl, rfl, ⟨[.int .u64 9223372036854775808], [.int .u64 18446744073709551615], rfl, rfl, ⟨[.int .u64 18446744073709551615], [], rfl, rfl, rfl⟩⟩⟩⟩⟩⟩⟩⟩⟩⟩⟩⟩)) ?_)
  intro g11289 w hS
  refine EL.quick 1 [1, 5] [(1, .int .u8 a11277), (5, .slice (some ⟨g11289, 0, none⟩) l11290.length 12)] (by kernel_rfl) ?_
  refine EL.done (by kernel_rfl) ?_
  refine EQ.code ?_
  refine EW.seq (x := Cd24.r.r.l) (y := Cd24.r.r.r) (by kernel_rfl) ?_
  refine EW.region (id := 2) (ops := Cd24.r.r.l.ops) (by kernel_rfl) ?_
  refine EL.quick 5 [12, 14, 16] [(12, .slice (some ⟨g11289, 0, none⟩) l11290.length 12), (14, .int .i64 (IntKind.i64.wrap a11277)), (16, .int .i64 (l11290.length : Int))] (by kernel_rfl) ?_
  obtain ⟨h11291, H⟩ := ite_out H
  refine EL.of (EO.Y (YO.div .rem .i64 (IntKind.i64.wrap a11277) (l11290.length : Int) (Int.tmod (IntKind.i64.wrap a11277) (l11290.length : Int)) 17 (by kernel_rfl) (by kernel_rfl) (by kernel_rfl) h11291 (by first | exact .inl ⟨rfl, rfl⟩ | exact .inr ⟨rfl, rfl⟩)) ?_)
  obtain ⟨h11292, H⟩ := ite_in H
  obtain ⟨h11293, H⟩ := ite_in H
  refine EL.of (EO.Y (YO.idx 36 1 ⟨g11289, 0, none⟩ l11290.length 12 .i64 (Int.tmod (IntKind.i64.wrap a11277) (l11290.length : Int)) 18 (by kernel_rfl) (by kernel_rfl) (by kernel_rfl) (by kernel_rfl) h11292 h11293) ?_)
  refine EL.of (EO.Y (YO.loadEl hS (Kd.int .u64) ⟨g11289, 0, none⟩ 12 l11290 (Rd.own 0 23 rfl) 0 (encI .u64) encI_of (Int.tmod (IntKind.i64.wrap a11277) (l11290.length : Int)) h11292 h11293 23 1 0 1 rfl (.int .u64 (l11290.getD (Int.tmod (IntKind.i64.wrap a11277) (l11290.length : Int)).toNat 0)) 19 (by kernel_rfl) (by kernel_rfl) (by kernel_rfl) (by kernel_rfl)) ?_)
  refine EL.quick 1 [4] [(4, .int .u64 (l11290.getD (Int.tmod (IntKind.i64.wrap a11277) (l11290.length : Int)).toNat 0))] (by kernel_rfl) ?_
  obtain ⟨y11294, hy11294, H⟩ := lt_out H
  refine EL.keep [4] [(4, .int .u64 (l11290.getD (Int.tmod (IntKind.i64.wrap a11277) (l11290.length : Int)).toNat 0))] (by kernel_rfl) ?_
  refine EL.as' [(4, .int .u64 y11294)] (by subst hy11294; rfl) ?_
  refine EL.done (by kernel_rfl) ?_
  refine EQ.code ?_
  refine EW.ret (by kernel_rfl) ?_
  obtain rfl := Option.some.inj H
  exact EQ.leave (.int .u64 y11294) (by kernel_rfl) ⟨_, rfl, rfl, (hS.re [] [0] rfl (sub_self))⟩

/-! ### confidant/confidantlaw1.PackShort: function 8 -/
def confidantlaw1_PackShort.l0 (K : Nat) (j11461 : Int → Option Bool) : Nat → Int → Int → Option Bool
  | 0, _, _ => none
  | n + 1, x11468, x11469 => if x11469 > 0 then (confidantlaw1_PackShort.l0 K j11461 n (IntKind.i64.wrap (x11468 + 1)) (sR .u64 x11469 7)) else (j11461 x11468)
def confidantlaw1_PackShort.f (K : Nat) (a4 : Int) (a5 : Int) (a6 : Int) : Option Bool := b1 (confidantlaw1_known.f K) fun (t11408 : Bool) => (if t11408 = true then (b1 (confidantlaw1_edge.f K a4 a5) fun (t11413 : Int) => (lt ([t11413] : List Int) fun l11422 => (b1 (pack_Put.f K l11422) fun (t11423 : List Int) => (lt (fun (x11460 : Int) => (if (mx (t11423.length : Int) 1) = 0 then none else (if 0 ≤ (Int.tmod (IntKind.i64.wrap a6) (mx (t11423.length : Int) 1)) then (if (Int.tmod (IntKind.i64.wrap a6) (mx (t11423.length : Int) 1)) ≤ (t11423.length : Int) then (lt (t11423.take ((Int.tmod (IntKind.i64.wrap a6) (mx (t11423.length : Int) 1)).toNat)) fun l11493 => (b2 (pack_New.f K l11493) fun (t11496 : List Int) (t11497 : Int) => (if (t11423.length : Int) = x11460 then (b3 (pack_Reader_Num.f K t11496 t11497 18446744073709551615) fun (t11503 : List Int) (t11504 : Int) (t11505 : Int) => (if t11505 = 0 then (b3 (pack_Reader_Err.f K t11503 t11504) fun (t11510 : List Int) (t11511 : Int) (t11512 : Int) => (some (decide (t11512 = 21)))) else (some false))) else (some false)))) else none) else none))) fun j11461 => (confidantlaw1_PackShort.l0 K j11461 K 1 (sR .u64 t11413 7)))))) else (some false))
set_option maxRecDepth 100000 in
theorem confidantlaw1_PackShort.calls {K : Nat} {a4 : Int} {a5 : Int} {a6 : Int} {x11400 : Bool} {B w : World} {os : List Ass} {rs : List Ro} (H : confidantlaw1_PackShort.f K a4 a5 a6 = some x11400) (hS : St B w (os) (rs)) :
    Calls Try.prog 8 [.int .u64 a4, .int .u8 a5, .int .u8 a6].toArray w (fun en w' => ∃ v, en = .returned v ∧ v = .bool (x11400) ∧ St B w' (os) (rs)) := by
  unfold confidantlaw1_PackShort.f at H
  refine calls_of_EW (args := [.int .u64 a4, .int .u8 a5, .int .u8 a6]) (c := Cd8) 51 Try.func8 (by kernel_rfl) (by kernel_rfl) (by kernel_rfl) ?_
  refine EW.seq (x := Cd8.l) (y := Cd8.r) (by kernel_rfl) ?_
  refine EW.region (id := 0) (ops := Cd8.l.ops) (by kernel_rfl) ?_
  refine EL.quick 1 [0, 1, 2] [(0, .int .u64 a4), (1, .int .u8 a5), (2, .int .u8 a6)] (by kernel_rfl) ?_
  refine EL.done (by kernel_rfl) ?_
  refine EQ.code ?_
  refine EW.seq (x := Cd8.r.l) (y := Cd8.r.r) (by kernel_rfl) ?_
  refine EW.seq (x := Cd8.r.l.l) (y := Cd8.r.l.r) (by kernel_rfl) ?_
  refine EW.region (id := 1) (ops := Cd8.r.l.l.ops) (by kernel_rfl) ?_
  obtain ⟨t11408, hc11409, H⟩ := b1_out H
  refine EL.of (EO.callD 19 [] _ 12 (by kernel_rfl) (by kernel_rfl) (by kernel_rfl) (confidantlaw1_known.calls hc11409 hS) ?_)
  rintro v w ⟨rfl, hS⟩
  refine EL.quick 1 [0, 1, 2, 13] [(0, .int .u64 a4), (1, .int .u8 a5), (2, .int .u8 a6), (13, .bool (!(t11408)))] (by kernel_rfl) ?_
  refine EL.done (by kernel_rfl) ?_
  refine EQ.code ?_
  refine EW.condQ (b := !(t11408)) (o := (.tmp 13)) (x := Cd8.r.l.r.l) (y := Cd8.r.l.r.r) (t11408 = true) (false) (by kernel_rfl) (by kernel_rfl) ⟨fun h => (by rw [h] <;> rfl), fun h => (by rw [Bool.eq_false_iff.2 h] <;> rfl)⟩ (fun h11410 => ?_) (fun h11410 => ?_)
  · rw [if_pos h11410] at H
    refine EW.skip (by kernel_rfl) ?_
    refine EQ.code ?_
    refine EW.seq (x := Cd8.r.r.l) (y := Cd8.r.r.r) (by kernel_rfl) ?_
    refine EW.region (id := 3) (ops := Cd8.r.r.l.ops) (by kernel_rfl) ?_
    refine EL.quick 2 [2, 14, 15] [(2, .int .u8 a6), (14, .int .u64 a4), (15, .int .u8 a5)] (by kernel_rfl) ?_
    obtain ⟨t11413, hc11414, H⟩ := b1_out H
    refine EL.of (EO.callD 24 [.int .u64 a4, .int .u8 a5] _ 16 (by kernel_rfl) (by kernel_rfl) (by kernel_rfl) (confidantlaw1_edge.calls hc11414 hS) ?_)
    rintro v w ⟨rfl, hS⟩
    refine EL.quick 1 [2, 7] [(2, .int .u8 a6), (7, .int .u64 t11413)] (by kernel_rfl) ?_
    refine EL.done (by kernel_rfl) ?_
    refine EQ.code ?_
    refine EW.seq (x := Cd8.r.r.r.l) (y := Cd8.r.r.r.r) (by kernel_rfl) ?_
    refine EW.region (id := 4) (ops := Cd8.r.r.r.l.ops) (by kernel_rfl) ?_
    refine EL.quick 1 [2, 7, 17] [(2, .int .u8 a6), (7, .int .u64 t11413), (17, .int .u64 t11413)] (by kernel_rfl) ?_
    obtain ⟨l11422, hl11422, H⟩ := lt_out H
    refine EL.of (EO.lit hS (Kd.int .u64) 23 36 1 #[(0, .int .u64 t11413)] [.int .u64 t11413] l11422 18 (by kernel_rfl) (by kernel_rfl) (by kernel_rfl) (fun _ => (by kernel_rfl)) (by rw [hl11422]; rfl) (by kernel_rfl) (fun w G hr => (by rw [hl11422]; exact ⟨[.int .u64 t11413], [], rfl, rfl, rfl⟩)) ?_)
    intro g11421 w hS
    have hS := St.fr hS 0 rfl
    have hS : St B _ (os) (Ro.sl (Kd.int .u64) (some ⟨g11421, 0, none⟩) 1 l11422 :: Ro.sl (Kd.int .u64) (some ⟨g11421, 0, none⟩) 1 l11422 :: rs) := hS.re [] [] rfl (sub_cons 0 rfl sub_self)
    obtain ⟨t11423, hc11426, H⟩ := b1_out H
    refine EL.of (EO.callD 22 [.slice (some ⟨g11421, 0, none⟩) l11422.length 1] _ 19 (by kernel_rfl) (by kernel_rfl) (by kernel_rfl) (pack_Put.calls hc11426 hS) ?_)
    rintro v w ⟨A11424, C11425, rfl, hS⟩
    refine EL.quick 1 [2, 7, 8] [(2, .int .u8 a6), (7, .int .u64 t11413), (8, .slice A11424 t11423.length C11425)] (by kernel_rfl) ?_
    refine EL.done (by kernel_rfl) ?_
    refine EQ.code ?_
    refine EW.seq (x := Cd8.r.r.r.r.l) (y := Cd8.r.r.r.r.r) (by kernel_rfl) ?_
    refine EW.region (id := 5) (ops := Cd8.r.r.r.r.l.ops) (by kernel_rfl) ?_
    refine EL.quick 1 [2, 7, 8, 9] [(2, .int .u8 a6), (7, .int .u64 t11413), (8, .slice A11424 t11423.length C11425), (9, .int .i64 1)] (by kernel_rfl) ?_
    refine EL.done (by kernel_rfl) ?_
    refine EQ.code ?_
    obtain ⟨j11461, hj11461, H⟩ := lt_out H
    refine EW.cut (x := Cd8.r.r.r.r.r.l) (y := Cd8.r.r.r.r.r.r) (fun a w => ∃ x11460 : Int, Sat 51 [(2, .int .u8 a6), (8, .slice A11424 t11423.length C11425), (9, .int .i64 x11460)] a ∧ St B w (Ass.own 5 (Kd.int .u8) A11424 C11425 t11423 :: os) (Ro.sl (Kd.int .u64) (some ⟨g11421, 0, none⟩) 1 l11422 :: Ro.sl (Kd.int .u64) (some ⟨g11421, 0, none⟩) 1 l11422 :: rs) ∧ j11461 x11460 = some x11400) (by kernel_rfl) ?_ (fun a w hI => ?_)
    · refine EW.seq (x := Cd8.r.r.r.r.r.l.l) (y := Cd8.r.r.r.r.r.l.r) (by kernel_rfl) ?_
      refine EW.region (id := 6) (ops := Cd8.r.r.r.r.r.l.l.ops) (by kernel_rfl) ?_
      refine EL.quick 3 [2, 8, 9, 10] [(2, .int .u8 a6), (8, .slice A11424 t11423.length C11425), (9, .int .i64 1), (10, .int .u64 (sR .u64 t11413 7))] (by kernel_rfl) ?_
      refine EL.done (by kernel_rfl) ?_
      refine EQ.code ?_
      refine EW.block (x := Cd8.r.r.r.r.r.l.r.l) (id := 0) (by kernel_rfl) ?_
      refine EW.loop (x := Cd8.r.r.r.r.r.l.r.l.l) (fun n a w => ∃ x11468 : Int, ∃ x11469 : Int, Sat 51 [(2, .int .u8 a6), (8, .slice A11424 t11423.length C11425), (9, .int .i64 x11468), (10, .int .u64 x11469)] a ∧ St B w (Ass.own 5 (Kd.int .u8) A11424 C11425 t11423 :: os) (Ro.sl (Kd.int .u64) (some ⟨g11421, 0, none⟩) 1 l11422 :: Ro.sl (Kd.int .u64) (some ⟨g11421, 0, none⟩) 1 l11422 :: rs) ∧ confidantlaw1_PackShort.l0 K j11461 n x11468 x11469 = some x11400) K (by kernel_rfl) ?_ (fun n a w hI => ?_)
      · refine EQ.keep [2, 8, 9, 10] [(2, .int .u8 a6), (8, .slice A11424 t11423.length C11425), (9, .int .i64 1), (10, .int .u64 (sR .u64 t11413 7))] (by kernel_rfl) ?_
        exact fun a ha => ⟨1, sR .u64 t11413 7, ha, (hS.re [0] [] rfl (sub_cons 0 rfl (sub_cons 0 rfl (sub_tail (sub_tail (sub_self)))))), H⟩
      · obtain ⟨x11468, x11469, ha, hS, H⟩ := hI
        obtain _ | n := n
        · simp [confidantlaw1_PackShort.l0] at H
        rw [confidantlaw1_PackShort.l0.eq_2] at H
        refine EW.at ?_ a ha
        clear ha a
        refine EW.seq (x := Cd8.r.r.r.r.r.l.r.l.l.l) (y := Cd8.r.r.r.r.r.l.r.l.l.r) (by kernel_rfl) ?_
        refine EW.seq (x := Cd8.r.r.r.r.r.l.r.l.l.l.l) (y := Cd8.r.r.r.r.r.l.r.l.l.l.r) (by kernel_rfl) ?_
        refine EW.region (id := 7) (ops := Cd8.r.r.r.r.r.l.r.l.l.l.l.ops) (by kernel_rfl) ?_
        refine EL.quick 2 [2, 8, 9, 10, 23] [(2, .int .u8 a6), (8, .slice A11424 t11423.length C11425), (9, .int .i64 x11468), (10, .int .u64 x11469), (23, .bool (decide (x11469 > 0)))] (by kernel_rfl) ?_
        refine EL.done (by kernel_rfl) ?_
        refine EQ.code ?_
        refine EW.condP (o := (.tmp 23)) (x := Cd8.r.r.r.r.r.l.r.l.l.l.r.l) (y := Cd8.r.r.r.r.r.l.r.l.l.l.r.r) (x11469 > 0) (by kernel_rfl) (by kernel_rfl) (fun h11477 => ?_) (fun h11477 => ?_)
        · rw [if_pos h11477] at H
          refine EW.skip (by kernel_rfl) ?_
          refine EQ.code ?_
          refine EW.seq (x := Cd8.r.r.r.r.r.l.r.l.l.r.l) (y := Cd8.r.r.r.r.r.l.r.l.l.r.r) (by kernel_rfl) ?_
          refine EW.block (x := Cd8.r.r.r.r.r.l.r.l.l.r.l.l) (id := 1) (by kernel_rfl) ?_
          refine EW.region (id := 9) (ops := Cd8.r.r.r.r.r.l.r.l.l.r.l.l.ops) (by kernel_rfl) ?_
          refine EL.quick 3 [2, 8, 9, 10] [(2, .int .u8 a6), (8, .slice A11424 t11423.length C11425), (9, .int .i64 (IntKind.i64.wrap (x11468 + 1))), (10, .int .u64 x11469)] (by kernel_rfl) ?_
          refine EL.done (by kernel_rfl) ?_
          refine EQ.pop ?_
          refine EQ.code ?_
          refine EW.region (id := 8) (ops := Cd8.r.r.r.r.r.l.r.l.l.r.r.ops) (by kernel_rfl) ?_
          refine EL.quick 3 [2, 8, 9, 10] [(2, .int .u8 a6), (8, .slice A11424 t11423.length C11425), (9, .int .i64 (IntKind.i64.wrap (x11468 + 1))), (10, .int .u64 (sR .u64 x11469 7))] (by kernel_rfl) ?_
          refine EL.done (by kernel_rfl) ?_
          refine EQ.to ?_
          refine EQ.keep [2, 8, 9, 10] [(2, .int .u8 a6), (8, .slice A11424 t11423.length C11425), (9, .int .i64 (IntKind.i64.wrap (x11468 + 1))), (10, .int .u64 (sR .u64 x11469 7))] (by kernel_rfl) ?_
          exact fun a ha => ⟨n, Nat.lt_succ_self n, IntKind.i64.wrap (x11468 + 1), sR .u64 x11469 7, ha, (hS.re [0] [] rfl (sub_cons 0 rfl (sub_cons 0 rfl (sub_tail (sub_tail (sub_self)))))), H⟩
        · rw [if_neg h11477] at H
          refine EW.exit (id := 0) (by kernel_rfl) ?_
          refine EQ.exitCode ?_
          refine EQ.exitTo ?_
          refine EQ.exitHere ?_
          refine EQ.to ?_
          refine EQ.keep [2, 8, 9] [(2, .int .u8 a6), (8, .slice A11424 t11423.length C11425), (9, .int .i64 x11468)] (by kernel_rfl) ?_
          exact fun a ha => ⟨x11468, ha, (hS.re [0] [] rfl (sub_cons 0 rfl (sub_cons 0 rfl (sub_tail (sub_tail (sub_self)))))), H⟩
    · obtain ⟨x11460, ha, hS, H⟩ := hI
      rw [hj11461] at H
      (try dsimp only at H)
      refine EW.at ?_ a ha
      clear ha a
      refine EW.seq (x := Cd8.r.r.r.r.r.r.l) (y := Cd8.r.r.r.r.r.r.r) (by kernel_rfl) ?_
      refine EW.region (id := 10) (ops := Cd8.r.r.r.r.r.r.l.ops) (by kernel_rfl) ?_
      refine EL.quick 6 [8, 9, 28, 30, 33] [(8, .slice A11424 t11423.length C11425), (9, .int .i64 x11460), (28, .slice A11424 t11423.length C11425), (30, .int .i64 (IntKind.i64.wrap a6)), (33, .int .i64 (mx (t11423.length : Int) 1))] (by kernel_rfl) ?_
      obtain ⟨h11490, H⟩ := ite_out H
      refine EL.of (EO.Y (YO.div .rem .i64 (IntKind.i64.wrap a6) (mx (t11423.length : Int) 1) (Int.tmod (IntKind.i64.wrap a6) (mx (t11423.length : Int) 1)) 34 (by kernel_rfl) (by kernel_rfl) (by kernel_rfl) h11490 (by first | exact .inl ⟨rfl, rfl⟩ | exact .inr ⟨rfl, rfl⟩)) ?_)
      obtain ⟨h11491, H⟩ := ite_in H
      obtain ⟨h11492, H⟩ := ite_in H
      obtain ⟨l11493, hl11493, H⟩ := lt_out H
      refine EL.of (EO.sliceOwn hS (Kd.int .u8) 5 A11424 C11425 t11423 0 rfl none (some (.int .i64 (Int.tmod (IntKind.i64.wrap a6) (mx (t11423.length : Int) 1)))) none 0 ((Int.tmod (IntKind.i64.wrap a6) (mx (t11423.length : Int) 1)).toNat) C11425 l11493 (by rw [hl11493]; exact (slice_hi _ _)) (fun A11494 C11495 => Ass.own 5 (Kd.int .u8) A11494 C11495 l11493 :: os) 22 35 (by kernel_rfl) (by kernel_rfl) (by kernel_rfl) (by kernel_rfl) (rfl) ((Int.toNat_of_nonneg (by omega)).symm) ⟨rfl, fun h => by first | rfl | cases h⟩ (by omega) (by omega) (.inl rfl) (fun _ _ => rfl) ?_)
      intro A11494 C11495 hS
      have hS := St.fr hS 0 rfl
      have hS : St B _ (os) (Ro.sl (Kd.int .u8) A11494 C11495 l11493 :: Ro.sl (Kd.int .u8) A11494 C11495 l11493 :: Ro.sl (Kd.int .u64) (some ⟨g11421, 0, none⟩) 1 l11422 :: Ro.sl (Kd.int .u64) (some ⟨g11421, 0, none⟩) 1 l11422 :: rs) := hS.re [] [] rfl (sub_cons 0 rfl sub_self)
      obtain ⟨t11496, t11497, hc11501, H⟩ := b2_out H
      refine EL.of (EO.callD 25 [.slice A11494 l11493.length C11495] _ 36 (by kernel_rfl) (by kernel_rfl) (by kernel_rfl) (pack_New.calls hc11501 hS) ?_)
      rintro v w ⟨g11498, A11499, C11500, rfl, hS⟩
      refine EL.quick 1 [8, 9, 11] [(8, .slice A11424 t11423.length C11425), (9, .int .i64 x11460), (11, .pointer (some ⟨g11498, 0, none⟩))] (by kernel_rfl) ?_
      refine EL.done (by kernel_rfl) ?_
      refine EQ.code ?_
      refine EW.seq (x := Cd8.r.r.r.r.r.r.r.l) (y := Cd8.r.r.r.r.r.r.r.r) (by kernel_rfl) ?_
      refine EW.region (id := 11) (ops := Cd8.r.r.r.r.r.r.r.l.ops) (by kernel_rfl) ?_
      refine EL.quick 5 [11, 41] [(11, .pointer (some ⟨g11498, 0, none⟩)), (41, .bool (decide ((t11423.length : Int) = x11460)))] (by kernel_rfl) ?_
      by_cases h11502 : (t11423.length : Int) = x11460
      · rw [if_pos h11502] at H
        refine EL.keep [11, 41] [(11, .pointer (some ⟨g11498, 0, none⟩)), (41, .bool (decide ((t11423.length : Int) = x11460)))] (by kernel_rfl) ?_
        refine EL.as' [(11, .pointer (some ⟨g11498, 0, none⟩)), (41, .bool (true))] (by simp only [dec_t h11502, Bool.not_true, Bool.not_false]) ?_
        refine EL.quick 1 [11, 41, 42] [(11, .pointer (some ⟨g11498, 0, none⟩)), (41, .bool (true)), (42, .pointer (some ⟨g11498, 0, none⟩))] (by kernel_rfl) ?_
        have hS : St B _ (Ass.box 91 g11498 [.slice A11499 t11496.length C11500, .int .i64 t11497] :: os) (Ro.sl (Kd.int .u8) A11499 C11500 t11496 :: Ro.sl (Kd.int .u8) A11499 C11500 t11496 :: Ro.sl (Kd.int .u8) A11494 C11495 l11493 :: Ro.sl (Kd.int .u8) A11494 C11495 l11493 :: Ro.sl (Kd.int .u64) (some ⟨g11421, 0, none⟩) 1 l11422 :: Ro.sl (Kd.int .u64) (some ⟨g11421, 0, none⟩) 1 l11422 :: rs) := hS.re [0] [] rfl (sub_cons 0 rfl sub_self)
        obtain ⟨t11503, t11504, t11505, hc11508, H⟩ := b3_out H
        refine EL.of (EO.callD 28 [.pointer (some ⟨g11498, 0, none⟩), .int .u64 18446744073709551615] _ 43 (by kernel_rfl) (by kernel_rfl) (by kernel_rfl) (pack_Reader_Num.calls hc11508 hS) ?_)
        rintro v w ⟨A11506, C11507, rfl, hS⟩
        refine EL.quick 3 [11, 46] [(11, .pointer (some ⟨g11498, 0, none⟩)), (46, .bool (decide (t11505 = 0)))] (by kernel_rfl) ?_
        by_cases h11509 : t11505 = 0
        · rw [if_pos h11509] at H
          refine EL.keep [11, 46] [(11, .pointer (some ⟨g11498, 0, none⟩)), (46, .bool (decide (t11505 = 0)))] (by kernel_rfl) ?_
          refine EL.as' [(11, .pointer (some ⟨g11498, 0, none⟩)), (46, .bool (true))] (by simp only [dec_t h11509, Bool.not_true, Bool.not_false]) ?_
          refine EL.quick 1 [46, 47] [(46, .bool (true)), (47, .pointer (some ⟨g11498, 0, none⟩))] (by kernel_rfl) ?_
          have hS : St B _ (Ass.box 91 g11498 [.slice A11506 t11503.length C11507, .int .i64 t11504] :: os) (Ro.sl (Kd.int .u8) A11506 C11507 t11503 :: Ro.sl (Kd.int .u8) A11506 C11507 t11503 :: Ro.sl (Kd.int .u8) A11499 C11500 t11496 :: Ro.sl (Kd.int .u8) A11499 C11500 t11496 :: Ro.sl (Kd.int .u8) A11494 C11495 l11493 :: Ro.sl (Kd.int .u8) A11494 C11495 l11493 :: Ro.sl (Kd.int .u64) (some ⟨g11421, 0, none⟩) 1 l11422 :: Ro.sl (Kd.int .u64) (some ⟨g11421, 0, none⟩) 1 l11422 :: rs) := hS.re [0] [] rfl (sub_cons 0 rfl sub_self)
          obtain ⟨t11510, t11511, t11512, hc11515, H⟩ := b3_out H
          refine EL.of (EO.callD 30 [.pointer (some ⟨g11498, 0, none⟩)] _ 48 (by kernel_rfl) (by kernel_rfl) (by kernel_rfl) (pack_Reader_Err.calls hc11515 hS) ?_)
          rintro v w ⟨A11513, C11514, rfl, hS⟩
          refine EL.quick 3 [6] [(6, .bool (decide (t11512 = 21)))] (by kernel_rfl) ?_
          refine EL.done (by kernel_rfl) ?_
          refine EQ.code ?_
          refine EW.ret (by kernel_rfl) ?_
          obtain rfl := Option.some.inj H
          exact EQ.leave (.bool (decide (t11512 = 21))) (by kernel_rfl) ⟨_, rfl, rfl, (hS.re [] [0] rfl (sub_tail (sub_tail (sub_tail (sub_tail (sub_tail (sub_tail (sub_tail (sub_tail (sub_tail (sub_self)))))))))))⟩
        · rw [if_neg h11509] at H
          refine EL.keep [11, 46] [(11, .pointer (some ⟨g11498, 0, none⟩)), (46, .bool (decide (t11505 = 0)))] (by kernel_rfl) ?_
          refine EL.as' [(11, .pointer (some ⟨g11498, 0, none⟩)), (46, .bool (false))] (by simp only [dec_f h11509, Bool.not_true, Bool.not_false]) ?_
          refine EL.quick 5 [6] [(6, .bool (false))] (by kernel_rfl) ?_
          refine EL.done (by kernel_rfl) ?_
          refine EQ.code ?_
          refine EW.ret (by kernel_rfl) ?_
          obtain rfl := Option.some.inj H
          exact EQ.leave (.bool (false)) (by kernel_rfl) ⟨_, rfl, rfl, (hS.re [] [0] rfl (sub_tail (sub_tail (sub_tail (sub_tail (sub_tail (sub_tail (sub_tail (sub_self)))))))))⟩
      · rw [if_neg h11502] at H
        refine EL.keep [11, 41] [(11, .pointer (some ⟨g11498, 0, none⟩)), (41, .bool (decide ((t11423.length : Int) = x11460)))] (by kernel_rfl) ?_
        refine EL.as' [(11, .pointer (some ⟨g11498, 0, none⟩)), (41, .bool (false))] (by simp only [dec_f h11502, Bool.not_true, Bool.not_false]) ?_
        refine EL.quick 10 [6] [(6, .bool (false))] (by kernel_rfl) ?_
        refine EL.done (by kernel_rfl) ?_
        refine EQ.code ?_
        refine EW.ret (by kernel_rfl) ?_
        obtain rfl := Option.some.inj H
        exact EQ.leave (.bool (false)) (by kernel_rfl) ⟨_, rfl, rfl, (hS.re [] [0] rfl (sub_tail (sub_tail (sub_tail (sub_tail (sub_tail (sub_self)))))))⟩
  · rw [if_neg h11410] at H
    refine EW.seq (x := Cd8.r.l.r.l.l) (y := Cd8.r.l.r.l.r) (by kernel_rfl) ?_
    refine EW.region (id := 2) (ops := Cd8.r.l.r.l.l.ops) (by kernel_rfl) ?_
    refine EL.quick 1 [6] [(6, .bool (false))] (by kernel_rfl) ?_
    refine EL.done (by kernel_rfl) ?_
    refine EQ.code ?_
    refine EW.ret (by kernel_rfl) ?_
    refine EQ.ret ?_
    obtain rfl := Option.some.inj H
    exact EQ.leave (.bool (false)) (by kernel_rfl) ⟨_, rfl, rfl, (hS.re [] [] rfl (sub_self))⟩

def confidantlaw1_PackShort.Pure : Prop := ∀ (a4 : Int) (a5 : Int) (a6 : Int), (Lit.int .u64 a4).wf = true → (Lit.int .u8 a5).wf = true → (Lit.int .u8 a6).wf = true → ∃ K, confidantlaw1_PackShort.f K a4 a5 a6 = some true

noncomputable def Cd7 : Code := bodyOf Try.f7

/-! ### confidant/confidantlaw1.PackOrders: function 7 -/
def confidantlaw1_PackOrders.f (K : Nat) (a5 : Int) (a6 : Int) (a7 : Int) (a8 : Int) : Option Bool := b1 (confidantlaw1_known.f K) fun (t77 : Bool) => (if t77 = true then (b1 (confidantlaw1_edge.f K a5 a7) fun (t84 : Int) => (b1 (confidantlaw1_edge.f K a6 a8) fun (t86 : Int) => (lt ([t84] : List Int) fun l101 => (b1 (pack_Put.f K l101) fun (t102 : List Int) => (lt ([t86] : List Int) fun l107 => (b1 (pack_Put.f K l107) fun (t108 : List Int) => (if ((bStr t102).size : Int) = ((bStr t108).size : Int) then (some ((Op.bytesLess (bStr t102).toList (bStr t108).toList) == (decide (t84 < t86)))) else (lt (fun (x176 : Int) (x177 : Int) (x178 : ByteArray) (x179 : ByteArray) => (if x176 < x177 then (if (x178.size : Int) > 0 then (if 0 ≤ (x178.size : Int) then (if (x178.size : Int) ≤ (x179.size : Int) then (some (!(((x179.extract 0 ((x178.size : Int).toNat)).toList == x178.toList)))) else none) else none) else (some false)) else (some false))) fun j180 => (if ((bStr t102).size : Int) > ((bStr t108).size : Int) then (j180 t86 t84 (bStr t108) (bStr t102)) else (j180 t84 t86 (bStr t102) (bStr t108))))))))))) else (some false))
set_option maxRecDepth 100000 in
theorem confidantlaw1_PackOrders.calls {K : Nat} {a5 : Int} {a6 : Int} {a7 : Int} {a8 : Int} {x69 : Bool} {B w : World} {os : List Ass} {rs : List Ro} (H : confidantlaw1_PackOrders.f K a5 a6 a7 a8 = some x69) (hS : St B w (os) (rs)) :
    Calls Try.prog 7 [.int .u64 a5, .int .u64 a6, .int .u8 a7, .int .u8 a8].toArray w (fun en w' => ∃ v, en = .returned v ∧ v = .bool (x69) ∧ St B w' (os) (rs)) := by
  unfold confidantlaw1_PackOrders.f at H
  refine calls_of_EW (args := [.int .u64 a5, .int .u64 a6, .int .u8 a7, .int .u8 a8]) (c := Cd7) 66 Try.func7 (by kernel_rfl) (by kernel_rfl) (by kernel_rfl) ?_
  refine EW.seq (x := Cd7.l) (y := Cd7.r) (by kernel_rfl) ?_
  refine EW.region (id := 0) (ops := Cd7.l.ops) (by kernel_rfl) ?_
  refine EL.quick 1 [0, 1, 2, 3] [(0, .int .u64 a5), (1, .int .u64 a6), (2, .int .u8 a7), (3, .int .u8 a8)] (by kernel_rfl) ?_
  refine EL.done (by kernel_rfl) ?_
  refine EQ.code ?_
  refine EW.seq (x := Cd7.r.l) (y := Cd7.r.r) (by kernel_rfl) ?_
  refine EW.seq (x := Cd7.r.l.l) (y := Cd7.r.l.r) (by kernel_rfl) ?_
  refine EW.region (id := 1) (ops := Cd7.r.l.l.ops) (by kernel_rfl) ?_
  obtain ⟨t77, hc78, H⟩ := b1_out H
  refine EL.of (EO.callD 19 [] _ 13 (by kernel_rfl) (by kernel_rfl) (by kernel_rfl) (confidantlaw1_known.calls hc78 hS) ?_)
  rintro v w ⟨rfl, hS⟩
  refine EL.quick 1 [0, 1, 2, 3, 14] [(0, .int .u64 a5), (1, .int .u64 a6), (2, .int .u8 a7), (3, .int .u8 a8), (14, .bool (!(t77)))] (by kernel_rfl) ?_
  refine EL.done (by kernel_rfl) ?_
  refine EQ.code ?_
  refine EW.condQ (b := !(t77)) (o := (.tmp 14)) (x := Cd7.r.l.r.l) (y := Cd7.r.l.r.r) (t77 = true) (false) (by kernel_rfl) (by kernel_rfl) ⟨fun h => (by rw [h] <;> rfl), fun h => (by rw [Bool.eq_false_iff.2 h] <;> rfl)⟩ (fun h79 => ?_) (fun h79 => ?_)
  · rw [if_pos h79] at H
    refine EW.skip (by kernel_rfl) ?_
    refine EQ.code ?_
    refine EW.seq (x := Cd7.r.r.l) (y := Cd7.r.r.r) (by kernel_rfl) ?_
    refine EW.region (id := 3) (ops := Cd7.r.r.l.ops) (by kernel_rfl) ?_
    refine EL.quick 2 [1, 3, 15, 16] [(1, .int .u64 a6), (3, .int .u8 a8), (15, .int .u64 a5), (16, .int .u8 a7)] (by kernel_rfl) ?_
    obtain ⟨t84, hc85, H⟩ := b1_out H
    refine EL.of (EO.callD 24 [.int .u64 a5, .int .u8 a7] _ 17 (by kernel_rfl) (by kernel_rfl) (by kernel_rfl) (confidantlaw1_edge.calls hc85 hS) ?_)
    rintro v w ⟨rfl, hS⟩
    refine EL.quick 2 [17, 18, 19] [(17, .int .u64 t84), (18, .int .u64 a6), (19, .int .u8 a8)] (by kernel_rfl) ?_
    obtain ⟨t86, hc87, H⟩ := b1_out H
    refine EL.of (EO.callD 24 [.int .u64 a6, .int .u8 a8] _ 20 (by kernel_rfl) (by kernel_rfl) (by kernel_rfl) (confidantlaw1_edge.calls hc87 hS) ?_)
    rintro v w ⟨rfl, hS⟩
    refine EL.quick 2 [9, 10] [(9, .int .u64 t84), (10, .int .u64 t86)] (by kernel_rfl) ?_
    refine EL.done (by kernel_rfl) ?_
    refine EQ.code ?_
    refine EW.seq (x := Cd7.r.r.r.l) (y := Cd7.r.r.r.r) (by kernel_rfl) ?_
    obtain ⟨l101, hl101, H⟩ := lt_out H
    obtain ⟨t102, hc105, H⟩ := b1_out H
    obtain ⟨l107, hl107, H⟩ := lt_out H
    obtain ⟨t108, hc111, H⟩ := b1_out H
    refine EW.meet (id := 4) (ops := Cd7.r.r.r.l.ops) (fun a w => ∃ A138 : Option Addr, ∃ C139 : Nat, ∃ A140 : Option Addr, ∃ C141 : Nat, Sat 66 [(9, .int .u64 t84), (10, .int .u64 t86), (11, .string (bStr t102)), (12, .string (bStr t108))] a ∧ St B w (Ass.own 5 (Kd.int .u8) A138 C139 t108 :: Ass.own 5 (Kd.int .u8) A140 C141 t102 :: os) (rs)) (by kernel_rfl) ?_ (fun a w hI => ?_)
    · have hS := hS.drew
      refine EW.draw (B := B) (id := 4) (ops := Cd7.r.r.r.l.ops) [] [] (by kernel_rfl) (by kernel_rfl) ?_
      have hN : Region.noSelect Cd7.r.r.r.l.ops = true := (by kernel_rfl)
      have hF : freeAll Cd7.r.r.r.l.ops = true := (by kernel_rfl)
      have hC : Core B [] [] _ := ⟨_, _, hS⟩
      refine ED.quick hN hF hC [0, 4] [9, 10, 21, 25] 8 [(9, .int .u64 t84), (10, .int .u64 t86), (21, .int .u64 t84), (25, .int .u64 t86)] #[true, false, false, false, true, false, false, false, false, false] (by kernel_rfl) (by kernel_rfl) ?_
      refine ED.two 1 5 7 (by kernel_rfl) (by kernel_rfl) ?_ ?_
      · refine EO.lit hS (Kd.int .u64) 23 36 1 #[(0, .int .u64 t84)] [.int .u64 t84] l101 22 (by kernel_rfl) (by kernel_rfl) (by kernel_rfl) (fun _ => (by kernel_rfl)) (by rw [hl101]; rfl) (by kernel_rfl) (fun w G hr => (by rw [hl101]; exact ⟨[.int .u64 t84], [], rfl, rfl, rfl⟩)) ?_
        intro g142 w hS
        have hC : Core B [] [] _ := ⟨_, _, hS⟩
        refine ⟨hC, ?_⟩
        refine ED.at' #[true, true, false, false, true, false, false, false, false, false] (by kernel_rfl) ?_
        refine ED.two 2 5 6 (by kernel_rfl) (by kernel_rfl) ?_ ?_
        · have hS := St.fr hS 0 rfl
          have hS : St B _ (os) (Ro.sl (Kd.int .u64) (some ⟨g142, 0, none⟩) 1 l101 :: Ro.sl (Kd.int .u64) (some ⟨g142, 0, none⟩) 1 l101 :: rs) := hS.re [] [] rfl (sub_cons 0 rfl sub_self)
          refine EO.callD 22 [.slice (some ⟨g142, 0, none⟩) l101.length 1] _ 23 (by kernel_rfl) (by kernel_rfl) (by kernel_rfl) (pack_Put.calls hc105 hS) ?_
          rintro v w ⟨A143, C144, rfl, hS⟩
          have hC : Core B [] [] _ := ⟨_, _, hS⟩
          refine ⟨hC, ?_⟩
          refine ED.at' #[true, true, true, false, true, false, false, false, false, false] (by kernel_rfl) ?_
          refine ED.two 3 5 5 (by kernel_rfl) (by kernel_rfl) ?_ ?_
          · refine EO.Y (YO.bstr hS A143 C144 t102 (Rd.own 0 5 rfl) 22 9 5 24 (by kernel_rfl) (by kernel_rfl) (by kernel_rfl) (by kernel_rfl) (by kernel_rfl) (by kernel_rfl)) ?_
            have hC : Core B [] [] _ := ⟨_, _, hS⟩
            refine ⟨hC, ?_⟩
            refine ED.at' #[true, true, true, true, true, false, false, false, false, false] (by kernel_rfl) ?_
            refine ED.one 5 4 #[true, true, true, true, true, true, false, false, false, false] (by kernel_rfl) (by kernel_rfl) (by kernel_rfl) (EO.lit hS (Kd.int .u64) 23 36 1 #[(0, .int .u64 t86)] [.int .u64 t86] l107 26 (by kernel_rfl) (by kernel_rfl) (by kernel_rfl) (fun _ => (by kernel_rfl)) (by rw [hl107]; rfl) (by kernel_rfl) (fun w G hr => (by rw [hl107]; exact ⟨[.int .u64 t86], [], rfl, rfl, rfl⟩)) ?_)
            intro g145 w hS
            have hC : Core B [] [] _ := ⟨_, _, hS⟩
            refine ⟨hC, ?_⟩
            have hS := St.fr hS 0 rfl
            have hS : St B _ (Ass.own 5 (Kd.int .u8) A143 C144 t102 :: os) (Ro.sl (Kd.int .u64) (some ⟨g145, 0, none⟩) 1 l107 :: Ro.sl (Kd.int .u64) (some ⟨g145, 0, none⟩) 1 l107 :: Ro.sl (Kd.int .u64) (some ⟨g142, 0, none⟩) 1 l101 :: Ro.sl (Kd.int .u64) (some ⟨g142, 0, none⟩) 1 l101 :: rs) := hS.re [] [] rfl (sub_cons 0 rfl sub_self)
            refine ED.one 6 3 #[true, true, true, true, true, true, true, false, false, false] (by kernel_rfl) (by kernel_rfl) (by kernel_rfl) (EO.callD 22 [.slice (some ⟨g145, 0, none⟩) l107.length 1] _ 27 (by kernel_rfl) (by kernel_rfl) (by kernel_rfl) (pack_Put.calls hc111 hS) ?_)
            rintro v w ⟨A146, C147, rfl, hS⟩
            have hC : Core B [] [] _ := ⟨_, _, hS⟩
            refine ⟨hC, ?_⟩
            refine ED.quick hN hF hC [8] [9, 10, 11, 27] 2 [(9, .int .u64 t84), (10, .int .u64 t86), (11, .string (bStr t102)), (27, .slice A146 t108.length C147)] #[true, true, true, true, true, true, true, false, true, false] (by kernel_rfl) (by kernel_rfl) ?_
            refine ED.one 7 1 #[true, true, true, true, true, true, true, true, true, false] (by kernel_rfl) (by kernel_rfl) (by kernel_rfl) (EO.Y (YO.bstr hS A146 C147 t108 (Rd.own 0 5 rfl) 22 9 5 28 (by kernel_rfl) (by kernel_rfl) (by kernel_rfl) (by kernel_rfl) (by kernel_rfl) (by kernel_rfl)) ?_)
            have hC : Core B [] [] _ := ⟨_, _, hS⟩
            refine ⟨hC, ?_⟩
            refine ED.quick hN hF hC [9] [9, 10, 11, 12] 0 [(9, .int .u64 t84), (10, .int .u64 t86), (11, .string (bStr t102)), (12, .string (bStr t108))] #[true, true, true, true, true, true, true, true, true, true] (by kernel_rfl) (by kernel_rfl) ?_
            refine ED.done (by kernel_rfl) ?_
            refine EQ.to ?_
            refine EQ.keep [9, 10, 11, 12] [(9, .int .u64 t84), (10, .int .u64 t86), (11, .string (bStr t102)), (12, .string (bStr t108))] (by kernel_rfl) ?_
            exact fun a ha => ⟨A146, C147, A143, C144, ha, (hS.re [1, 1] [] rfl (sub_tail (sub_tail (sub_tail (sub_tail (sub_self))))))⟩
          · refine EO.lit hS (Kd.int .u64) 23 36 1 #[(0, .int .u64 t86)] [.int .u64 t86] l107 26 (by kernel_rfl) (by kernel_rfl) (by kernel_rfl) (fun _ => (by kernel_rfl)) (by rw [hl107]; rfl) (by kernel_rfl) (fun w G hr => (by rw [hl107]; exact ⟨[.int .u64 t86], [], rfl, rfl, rfl⟩)) ?_
            intro g148 w hS
            have hC : Core B [] [] _ := ⟨_, _, hS⟩
            refine ⟨hC, ?_⟩
            refine ED.at' #[true, true, true, false, true, true, false, false, false, false] (by kernel_rfl) ?_
            refine ED.two 3 6 4 (by kernel_rfl) (by kernel_rfl) ?_ ?_
            · refine EO.Y (YO.bstr hS A143 C144 t102 (Rd.own 1 5 rfl) 22 9 5 24 (by kernel_rfl) (by kernel_rfl) (by kernel_rfl) (by kernel_rfl) (by kernel_rfl) (by kernel_rfl)) ?_
              have hC : Core B [] [] _ := ⟨_, _, hS⟩
              refine ⟨hC, ?_⟩
              refine ED.at' #[true, true, true, true, true, true, false, false, false, false] (by kernel_rfl) ?_
              have hS := St.fr hS 0 rfl
              have hS : St B _ (Ass.own 5 (Kd.int .u8) A143 C144 t102 :: os) (Ro.sl (Kd.int .u64) (some ⟨g148, 0, none⟩) 1 l107 :: Ro.sl (Kd.int .u64) (some ⟨g148, 0, none⟩) 1 l107 :: Ro.sl (Kd.int .u64) (some ⟨g142, 0, none⟩) 1 l101 :: Ro.sl (Kd.int .u64) (some ⟨g142, 0, none⟩) 1 l101 :: rs) := hS.re [] [] rfl (sub_cons 0 rfl sub_self)
              refine ED.one 6 3 #[true, true, true, true, true, true, true, false, false, false] (by kernel_rfl) (by kernel_rfl) (by kernel_rfl) (EO.callD 22 [.slice (some ⟨g148, 0, none⟩) l107.length 1] _ 27 (by kernel_rfl) (by kernel_rfl) (by kernel_rfl) (pack_Put.calls hc111 hS) ?_)
              rintro v w ⟨A149, C150, rfl, hS⟩
              have hC : Core B [] [] _ := ⟨_, _, hS⟩
              refine ⟨hC, ?_⟩
              refine ED.quick hN hF hC [8] [9, 10, 11, 27] 2 [(9, .int .u64 t84), (10, .int .u64 t86), (11, .string (bStr t102)), (27, .slice A149 t108.length C150)] #[true, true, true, true, true, true, true, false, true, false] (by kernel_rfl) (by kernel_rfl) ?_
              refine ED.one 7 1 #[true, true, true, true, true, true, true, true, true, false] (by kernel_rfl) (by kernel_rfl) (by kernel_rfl) (EO.Y (YO.bstr hS A149 C150 t108 (Rd.own 0 5 rfl) 22 9 5 28 (by kernel_rfl) (by kernel_rfl) (by kernel_rfl) (by kernel_rfl) (by kernel_rfl) (by kernel_rfl)) ?_)
              have hC : Core B [] [] _ := ⟨_, _, hS⟩
              refine ⟨hC, ?_⟩
              refine ED.quick hN hF hC [9] [9, 10, 11, 12] 0 [(9, .int .u64 t84), (10, .int .u64 t86), (11, .string (bStr t102)), (12, .string (bStr t108))] #[true, true, true, true, true, true, true, true, true, true] (by kernel_rfl) (by kernel_rfl) ?_
              refine ED.done (by kernel_rfl) ?_
              refine EQ.to ?_
              refine EQ.keep [9, 10, 11, 12] [(9, .int .u64 t84), (10, .int .u64 t86), (11, .string (bStr t102)), (12, .string (bStr t108))] (by kernel_rfl) ?_
              exact fun a ha => ⟨A149, C150, A143, C144, ha, (hS.re [1, 1] [] rfl (sub_tail (sub_tail (sub_tail (sub_tail (sub_self))))))⟩
            · have hS := St.fr hS 0 rfl
              have hS : St B _ (Ass.own 5 (Kd.int .u8) A143 C144 t102 :: os) (Ro.sl (Kd.int .u64) (some ⟨g148, 0, none⟩) 1 l107 :: Ro.sl (Kd.int .u64) (some ⟨g148, 0, none⟩) 1 l107 :: Ro.sl (Kd.int .u64) (some ⟨g142, 0, none⟩) 1 l101 :: Ro.sl (Kd.int .u64) (some ⟨g142, 0, none⟩) 1 l101 :: rs) := hS.re [] [] rfl (sub_cons 0 rfl sub_self)
              refine EO.callD 22 [.slice (some ⟨g148, 0, none⟩) l107.length 1] _ 27 (by kernel_rfl) (by kernel_rfl) (by kernel_rfl) (pack_Put.calls hc111 hS) ?_
              rintro v w ⟨A151, C152, rfl, hS⟩
              have hC : Core B [] [] _ := ⟨_, _, hS⟩
              refine ⟨hC, ?_⟩
              refine ED.at' #[true, true, true, false, true, true, true, false, false, false] (by kernel_rfl) ?_
              refine ED.two 3 7 3 (by kernel_rfl) (by kernel_rfl) ?_ ?_
              · refine EO.Y (YO.bstr hS A143 C144 t102 (Rd.own 1 5 rfl) 22 9 5 24 (by kernel_rfl) (by kernel_rfl) (by kernel_rfl) (by kernel_rfl) (by kernel_rfl) (by kernel_rfl)) ?_
                have hC : Core B [] [] _ := ⟨_, _, hS⟩
                refine ⟨hC, ?_⟩
                refine ED.at' #[true, true, true, true, true, true, true, false, false, false] (by kernel_rfl) ?_
                refine ED.quick hN hF hC [8] [9, 10, 11, 27] 2 [(9, .int .u64 t84), (10, .int .u64 t86), (11, .string (bStr t102)), (27, .slice A151 t108.length C152)] #[true, true, true, true, true, true, true, false, true, false] (by kernel_rfl) (by kernel_rfl) ?_
                refine ED.one 7 1 #[true, true, true, true, true, true, true, true, true, false] (by kernel_rfl) (by kernel_rfl) (by kernel_rfl) (EO.Y (YO.bstr hS A151 C152 t108 (Rd.own 0 5 rfl) 22 9 5 28 (by kernel_rfl) (by kernel_rfl) (by kernel_rfl) (by kernel_rfl) (by kernel_rfl) (by kernel_rfl)) ?_)
                have hC : Core B [] [] _ := ⟨_, _, hS⟩
                refine ⟨hC, ?_⟩
                refine ED.quick hN hF hC [9] [9, 10, 11, 12] 0 [(9, .int .u64 t84), (10, .int .u64 t86), (11, .string (bStr t102)), (12, .string (bStr t108))] #[true, true, true, true, true, true, true, true, true, true] (by kernel_rfl) (by kernel_rfl) ?_
                refine ED.done (by kernel_rfl) ?_
                refine EQ.to ?_
                refine EQ.keep [9, 10, 11, 12] [(9, .int .u64 t84), (10, .int .u64 t86), (11, .string (bStr t102)), (12, .string (bStr t108))] (by kernel_rfl) ?_
                exact fun a ha => ⟨A151, C152, A143, C144, ha, (hS.re [1, 1] [] rfl (sub_tail (sub_tail (sub_tail (sub_tail (sub_self))))))⟩
              · refine EO.Y (YO.bstr hS A151 C152 t108 (Rd.own 0 5 rfl) 22 9 5 28 (by kernel_rfl) (by kernel_rfl) (by kernel_rfl) (by kernel_rfl) (by kernel_rfl) (by kernel_rfl)) ?_
                have hC : Core B [] [] _ := ⟨_, _, hS⟩
                refine ⟨hC, ?_⟩
                refine ED.at' #[true, true, true, false, true, true, true, true, false, false] (by kernel_rfl) ?_
                refine ED.one 3 2 #[true, true, true, true, true, true, true, true, false, false] (by kernel_rfl) (by kernel_rfl) (by kernel_rfl) (EO.Y (YO.bstr hS A143 C144 t102 (Rd.own 1 5 rfl) 22 9 5 24 (by kernel_rfl) (by kernel_rfl) (by kernel_rfl) (by kernel_rfl) (by kernel_rfl) (by kernel_rfl)) ?_)
                have hC : Core B [] [] _ := ⟨_, _, hS⟩
                refine ⟨hC, ?_⟩
                refine ED.quick hN hF hC [8, 9] [9, 10, 11, 12] 0 [(9, .int .u64 t84), (10, .int .u64 t86), (11, .string (bStr t102)), (12, .string (bStr t108))] #[true, true, true, true, true, true, true, true, true, true] (by kernel_rfl) (by kernel_rfl) ?_
                refine ED.done (by kernel_rfl) ?_
                refine EQ.to ?_
                refine EQ.keep [9, 10, 11, 12] [(9, .int .u64 t84), (10, .int .u64 t86), (11, .string (bStr t102)), (12, .string (bStr t108))] (by kernel_rfl) ?_
                exact fun a ha => ⟨A151, C152, A143, C144, ha, (hS.re [1, 1] [] rfl (sub_tail (sub_tail (sub_tail (sub_tail (sub_self))))))⟩
        · refine EO.lit hS (Kd.int .u64) 23 36 1 #[(0, .int .u64 t86)] [.int .u64 t86] l107 26 (by kernel_rfl) (by kernel_rfl) (by kernel_rfl) (fun _ => (by kernel_rfl)) (by rw [hl107]; rfl) (by kernel_rfl) (fun w G hr => (by rw [hl107]; exact ⟨[.int .u64 t86], [], rfl, rfl, rfl⟩)) ?_
          intro g153 w hS
          have hC : Core B [] [] _ := ⟨_, _, hS⟩
          refine ⟨hC, ?_⟩
          refine ED.at' #[true, true, false, false, true, true, false, false, false, false] (by kernel_rfl) ?_
          have hS := St.fr hS 1 rfl
          have hS : St B _ (Ass.own 23 (Kd.int .u64) (some ⟨g153, 0, none⟩) 1 l107 :: os) (Ro.sl (Kd.int .u64) (some ⟨g142, 0, none⟩) 1 l101 :: Ro.sl (Kd.int .u64) (some ⟨g142, 0, none⟩) 1 l101 :: rs) := hS.re [] [] rfl (sub_cons 0 rfl sub_self)
          refine ED.one 2 5 #[true, true, true, false, true, true, false, false, false, false] (by kernel_rfl) (by kernel_rfl) (by kernel_rfl) (EO.callD 22 [.slice (some ⟨g142, 0, none⟩) l101.length 1] _ 23 (by kernel_rfl) (by kernel_rfl) (by kernel_rfl) (pack_Put.calls hc105 hS) ?_)
          rintro v w ⟨A154, C155, rfl, hS⟩
          have hC : Core B [] [] _ := ⟨_, _, hS⟩
          refine ⟨hC, ?_⟩
          refine ED.two 3 6 4 (by kernel_rfl) (by kernel_rfl) ?_ ?_
          · refine EO.Y (YO.bstr hS A154 C155 t102 (Rd.own 0 5 rfl) 22 9 5 24 (by kernel_rfl) (by kernel_rfl) (by kernel_rfl) (by kernel_rfl) (by kernel_rfl) (by kernel_rfl)) ?_
            have hC : Core B [] [] _ := ⟨_, _, hS⟩
            refine ⟨hC, ?_⟩
            refine ED.at' #[true, true, true, true, true, true, false, false, false, false] (by kernel_rfl) ?_
            have hS := St.fr hS 1 rfl
            have hS : St B _ (Ass.own 5 (Kd.int .u8) A154 C155 t102 :: os) (Ro.sl (Kd.int .u64) (some ⟨g153, 0, none⟩) 1 l107 :: Ro.sl (Kd.int .u64) (some ⟨g153, 0, none⟩) 1 l107 :: Ro.sl (Kd.int .u64) (some ⟨g142, 0, none⟩) 1 l101 :: Ro.sl (Kd.int .u64) (some ⟨g142, 0, none⟩) 1 l101 :: rs) := hS.re [] [] rfl (sub_cons 0 rfl sub_self)
            refine ED.one 6 3 #[true, true, true, true, true, true, true, false, false, false] (by kernel_rfl) (by kernel_rfl) (by kernel_rfl) (EO.callD 22 [.slice (some ⟨g153, 0, none⟩) l107.length 1] _ 27 (by kernel_rfl) (by kernel_rfl) (by kernel_rfl) (pack_Put.calls hc111 hS) ?_)
            rintro v w ⟨A156, C157, rfl, hS⟩
            have hC : Core B [] [] _ := ⟨_, _, hS⟩
            refine ⟨hC, ?_⟩
            refine ED.quick hN hF hC [8] [9, 10, 11, 27] 2 [(9, .int .u64 t84), (10, .int .u64 t86), (11, .string (bStr t102)), (27, .slice A156 t108.length C157)] #[true, true, true, true, true, true, true, false, true, false] (by kernel_rfl) (by kernel_rfl) ?_
            refine ED.one 7 1 #[true, true, true, true, true, true, true, true, true, false] (by kernel_rfl) (by kernel_rfl) (by kernel_rfl) (EO.Y (YO.bstr hS A156 C157 t108 (Rd.own 0 5 rfl) 22 9 5 28 (by kernel_rfl) (by kernel_rfl) (by kernel_rfl) (by kernel_rfl) (by kernel_rfl) (by kernel_rfl)) ?_)
            have hC : Core B [] [] _ := ⟨_, _, hS⟩
            refine ⟨hC, ?_⟩
            refine ED.quick hN hF hC [9] [9, 10, 11, 12] 0 [(9, .int .u64 t84), (10, .int .u64 t86), (11, .string (bStr t102)), (12, .string (bStr t108))] #[true, true, true, true, true, true, true, true, true, true] (by kernel_rfl) (by kernel_rfl) ?_
            refine ED.done (by kernel_rfl) ?_
            refine EQ.to ?_
            refine EQ.keep [9, 10, 11, 12] [(9, .int .u64 t84), (10, .int .u64 t86), (11, .string (bStr t102)), (12, .string (bStr t108))] (by kernel_rfl) ?_
            exact fun a ha => ⟨A156, C157, A154, C155, ha, (hS.re [1, 1] [] rfl (sub_tail (sub_tail (sub_tail (sub_tail (sub_self))))))⟩
          · have hS := St.fr hS 1 rfl
            have hS : St B _ (Ass.own 5 (Kd.int .u8) A154 C155 t102 :: os) (Ro.sl (Kd.int .u64) (some ⟨g153, 0, none⟩) 1 l107 :: Ro.sl (Kd.int .u64) (some ⟨g153, 0, none⟩) 1 l107 :: Ro.sl (Kd.int .u64) (some ⟨g142, 0, none⟩) 1 l101 :: Ro.sl (Kd.int .u64) (some ⟨g142, 0, none⟩) 1 l101 :: rs) := hS.re [] [] rfl (sub_cons 0 rfl sub_self)
            refine EO.callD 22 [.slice (some ⟨g153, 0, none⟩) l107.length 1] _ 27 (by kernel_rfl) (by kernel_rfl) (by kernel_rfl) (pack_Put.calls hc111 hS) ?_
            rintro v w ⟨A158, C159, rfl, hS⟩
            have hC : Core B [] [] _ := ⟨_, _, hS⟩
            refine ⟨hC, ?_⟩
            refine ED.at' #[true, true, true, false, true, true, true, false, false, false] (by kernel_rfl) ?_
            refine ED.two 3 7 3 (by kernel_rfl) (by kernel_rfl) ?_ ?_
            · refine EO.Y (YO.bstr hS A154 C155 t102 (Rd.own 1 5 rfl) 22 9 5 24 (by kernel_rfl) (by kernel_rfl) (by kernel_rfl) (by kernel_rfl) (by kernel_rfl) (by kernel_rfl)) ?_
              have hC : Core B [] [] _ := ⟨_, _, hS⟩
              refine ⟨hC, ?_⟩
              refine ED.at' #[true, true, true, true, true, true, true, false, false, false] (by kernel_rfl) ?_
              refine ED.quick hN hF hC [8] [9, 10, 11, 27] 2 [(9, .int .u64 t84), (10, .int .u64 t86), (11, .string (bStr t102)), (27, .slice A158 t108.length C159)] #[true, true, true, true, true, true, true, false, true, false] (by kernel_rfl) (by kernel_rfl) ?_
              refine ED.one 7 1 #[true, true, true, true, true, true, true, true, true, false] (by kernel_rfl) (by kernel_rfl) (by kernel_rfl) (EO.Y (YO.bstr hS A158 C159 t108 (Rd.own 0 5 rfl) 22 9 5 28 (by kernel_rfl) (by kernel_rfl) (by kernel_rfl) (by kernel_rfl) (by kernel_rfl) (by kernel_rfl)) ?_)
              have hC : Core B [] [] _ := ⟨_, _, hS⟩
              refine ⟨hC, ?_⟩
              refine ED.quick hN hF hC [9] [9, 10, 11, 12] 0 [(9, .int .u64 t84), (10, .int .u64 t86), (11, .string (bStr t102)), (12, .string (bStr t108))] #[true, true, true, true, true, true, true, true, true, true] (by kernel_rfl) (by kernel_rfl) ?_
              refine ED.done (by kernel_rfl) ?_
              refine EQ.to ?_
              refine EQ.keep [9, 10, 11, 12] [(9, .int .u64 t84), (10, .int .u64 t86), (11, .string (bStr t102)), (12, .string (bStr t108))] (by kernel_rfl) ?_
              exact fun a ha => ⟨A158, C159, A154, C155, ha, (hS.re [1, 1] [] rfl (sub_tail (sub_tail (sub_tail (sub_tail (sub_self))))))⟩
            · refine EO.Y (YO.bstr hS A158 C159 t108 (Rd.own 0 5 rfl) 22 9 5 28 (by kernel_rfl) (by kernel_rfl) (by kernel_rfl) (by kernel_rfl) (by kernel_rfl) (by kernel_rfl)) ?_
              have hC : Core B [] [] _ := ⟨_, _, hS⟩
              refine ⟨hC, ?_⟩
              refine ED.at' #[true, true, true, false, true, true, true, true, false, false] (by kernel_rfl) ?_
              refine ED.one 3 2 #[true, true, true, true, true, true, true, true, false, false] (by kernel_rfl) (by kernel_rfl) (by kernel_rfl) (EO.Y (YO.bstr hS A154 C155 t102 (Rd.own 1 5 rfl) 22 9 5 24 (by kernel_rfl) (by kernel_rfl) (by kernel_rfl) (by kernel_rfl) (by kernel_rfl) (by kernel_rfl)) ?_)
              have hC : Core B [] [] _ := ⟨_, _, hS⟩
              refine ⟨hC, ?_⟩
              refine ED.quick hN hF hC [8, 9] [9, 10, 11, 12] 0 [(9, .int .u64 t84), (10, .int .u64 t86), (11, .string (bStr t102)), (12, .string (bStr t108))] #[true, true, true, true, true, true, true, true, true, true] (by kernel_rfl) (by kernel_rfl) ?_
              refine ED.done (by kernel_rfl) ?_
              refine EQ.to ?_
              refine EQ.keep [9, 10, 11, 12] [(9, .int .u64 t84), (10, .int .u64 t86), (11, .string (bStr t102)), (12, .string (bStr t108))] (by kernel_rfl) ?_
              exact fun a ha => ⟨A158, C159, A154, C155, ha, (hS.re [1, 1] [] rfl (sub_tail (sub_tail (sub_tail (sub_tail (sub_self))))))⟩
      · refine EO.lit hS (Kd.int .u64) 23 36 1 #[(0, .int .u64 t86)] [.int .u64 t86] l107 26 (by kernel_rfl) (by kernel_rfl) (by kernel_rfl) (fun _ => (by kernel_rfl)) (by rw [hl107]; rfl) (by kernel_rfl) (fun w G hr => (by rw [hl107]; exact ⟨[.int .u64 t86], [], rfl, rfl, rfl⟩)) ?_
        intro g160 w hS
        have hC : Core B [] [] _ := ⟨_, _, hS⟩
        refine ⟨hC, ?_⟩
        refine ED.at' #[true, false, false, false, true, true, false, false, false, false] (by kernel_rfl) ?_
        refine ED.one 1 6 #[true, true, false, false, true, true, false, false, false, false] (by kernel_rfl) (by kernel_rfl) (by kernel_rfl) (EO.lit hS (Kd.int .u64) 23 36 1 #[(0, .int .u64 t84)] [.int .u64 t84] l101 22 (by kernel_rfl) (by kernel_rfl) (by kernel_rfl) (fun _ => (by kernel_rfl)) (by rw [hl101]; rfl) (by kernel_rfl) (fun w G hr => (by rw [hl101]; exact ⟨[.int .u64 t84], [], rfl, rfl, rfl⟩)) ?_)
        intro g161 w hS
        have hC : Core B [] [] _ := ⟨_, _, hS⟩
        refine ⟨hC, ?_⟩
        have hS := St.fr hS 0 rfl
        have hS : St B _ (Ass.own 23 (Kd.int .u64) (some ⟨g160, 0, none⟩) 1 l107 :: os) (Ro.sl (Kd.int .u64) (some ⟨g161, 0, none⟩) 1 l101 :: Ro.sl (Kd.int .u64) (some ⟨g161, 0, none⟩) 1 l101 :: rs) := hS.re [] [] rfl (sub_cons 0 rfl sub_self)
        refine ED.one 2 5 #[true, true, true, false, true, true, false, false, false, false] (by kernel_rfl) (by kernel_rfl) (by kernel_rfl) (EO.callD 22 [.slice (some ⟨g161, 0, none⟩) l101.length 1] _ 23 (by kernel_rfl) (by kernel_rfl) (by kernel_rfl) (pack_Put.calls hc105 hS) ?_)
        rintro v w ⟨A162, C163, rfl, hS⟩
        have hC : Core B [] [] _ := ⟨_, _, hS⟩
        refine ⟨hC, ?_⟩
        refine ED.two 3 6 4 (by kernel_rfl) (by kernel_rfl) ?_ ?_
        · refine EO.Y (YO.bstr hS A162 C163 t102 (Rd.own 0 5 rfl) 22 9 5 24 (by kernel_rfl) (by kernel_rfl) (by kernel_rfl) (by kernel_rfl) (by kernel_rfl) (by kernel_rfl)) ?_
          have hC : Core B [] [] _ := ⟨_, _, hS⟩
          refine ⟨hC, ?_⟩
          refine ED.at' #[true, true, true, true, true, true, false, false, false, false] (by kernel_rfl) ?_
          have hS := St.fr hS 1 rfl
          have hS : St B _ (Ass.own 5 (Kd.int .u8) A162 C163 t102 :: os) (Ro.sl (Kd.int .u64) (some ⟨g160, 0, none⟩) 1 l107 :: Ro.sl (Kd.int .u64) (some ⟨g160, 0, none⟩) 1 l107 :: Ro.sl (Kd.int .u64) (some ⟨g161, 0, none⟩) 1 l101 :: Ro.sl (Kd.int .u64) (some ⟨g161, 0, none⟩) 1 l101 :: rs) := hS.re [] [] rfl (sub_cons 0 rfl sub_self)
          refine ED.one 6 3 #[true, true, true, true, true, true, true, false, false, false] (by kernel_rfl) (by kernel_rfl) (by kernel_rfl) (EO.callD 22 [.slice (some ⟨g160, 0, none⟩) l107.length 1] _ 27 (by kernel_rfl) (by kernel_rfl) (by kernel_rfl) (pack_Put.calls hc111 hS) ?_)
          rintro v w ⟨A164, C165, rfl, hS⟩
          have hC : Core B [] [] _ := ⟨_, _, hS⟩
          refine ⟨hC, ?_⟩
          refine ED.quick hN hF hC [8] [9, 10, 11, 27] 2 [(9, .int .u64 t84), (10, .int .u64 t86), (11, .string (bStr t102)), (27, .slice A164 t108.length C165)] #[true, true, true, true, true, true, true, false, true, false] (by kernel_rfl) (by kernel_rfl) ?_
          refine ED.one 7 1 #[true, true, true, true, true, true, true, true, true, false] (by kernel_rfl) (by kernel_rfl) (by kernel_rfl) (EO.Y (YO.bstr hS A164 C165 t108 (Rd.own 0 5 rfl) 22 9 5 28 (by kernel_rfl) (by kernel_rfl) (by kernel_rfl) (by kernel_rfl) (by kernel_rfl) (by kernel_rfl)) ?_)
          have hC : Core B [] [] _ := ⟨_, _, hS⟩
          refine ⟨hC, ?_⟩
          refine ED.quick hN hF hC [9] [9, 10, 11, 12] 0 [(9, .int .u64 t84), (10, .int .u64 t86), (11, .string (bStr t102)), (12, .string (bStr t108))] #[true, true, true, true, true, true, true, true, true, true] (by kernel_rfl) (by kernel_rfl) ?_
          refine ED.done (by kernel_rfl) ?_
          refine EQ.to ?_
          refine EQ.keep [9, 10, 11, 12] [(9, .int .u64 t84), (10, .int .u64 t86), (11, .string (bStr t102)), (12, .string (bStr t108))] (by kernel_rfl) ?_
          exact fun a ha => ⟨A164, C165, A162, C163, ha, (hS.re [1, 1] [] rfl (sub_tail (sub_tail (sub_tail (sub_tail (sub_self))))))⟩
        · have hS := St.fr hS 1 rfl
          have hS : St B _ (Ass.own 5 (Kd.int .u8) A162 C163 t102 :: os) (Ro.sl (Kd.int .u64) (some ⟨g160, 0, none⟩) 1 l107 :: Ro.sl (Kd.int .u64) (some ⟨g160, 0, none⟩) 1 l107 :: Ro.sl (Kd.int .u64) (some ⟨g161, 0, none⟩) 1 l101 :: Ro.sl (Kd.int .u64) (some ⟨g161, 0, none⟩) 1 l101 :: rs) := hS.re [] [] rfl (sub_cons 0 rfl sub_self)
          refine EO.callD 22 [.slice (some ⟨g160, 0, none⟩) l107.length 1] _ 27 (by kernel_rfl) (by kernel_rfl) (by kernel_rfl) (pack_Put.calls hc111 hS) ?_
          rintro v w ⟨A166, C167, rfl, hS⟩
          have hC : Core B [] [] _ := ⟨_, _, hS⟩
          refine ⟨hC, ?_⟩
          refine ED.at' #[true, true, true, false, true, true, true, false, false, false] (by kernel_rfl) ?_
          refine ED.two 3 7 3 (by kernel_rfl) (by kernel_rfl) ?_ ?_
          · refine EO.Y (YO.bstr hS A162 C163 t102 (Rd.own 1 5 rfl) 22 9 5 24 (by kernel_rfl) (by kernel_rfl) (by kernel_rfl) (by kernel_rfl) (by kernel_rfl) (by kernel_rfl)) ?_
            have hC : Core B [] [] _ := ⟨_, _, hS⟩
            refine ⟨hC, ?_⟩
            refine ED.at' #[true, true, true, true, true, true, true, false, false, false] (by kernel_rfl) ?_
            refine ED.quick hN hF hC [8] [9, 10, 11, 27] 2 [(9, .int .u64 t84), (10, .int .u64 t86), (11, .string (bStr t102)), (27, .slice A166 t108.length C167)] #[true, true, true, true, true, true, true, false, true, false] (by kernel_rfl) (by kernel_rfl) ?_
            refine ED.one 7 1 #[true, true, true, true, true, true, true, true, true, false] (by kernel_rfl) (by kernel_rfl) (by kernel_rfl) (EO.Y (YO.bstr hS A166 C167 t108 (Rd.own 0 5 rfl) 22 9 5 28 (by kernel_rfl) (by kernel_rfl) (by kernel_rfl) (by kernel_rfl) (by kernel_rfl) (by kernel_rfl)) ?_)
            have hC : Core B [] [] _ := ⟨_, _, hS⟩
            refine ⟨hC, ?_⟩
            refine ED.quick hN hF hC [9] [9, 10, 11, 12] 0 [(9, .int .u64 t84), (10, .int .u64 t86), (11, .string (bStr t102)), (12, .string (bStr t108))] #[true, true, true, true, true, true, true, true, true, true] (by kernel_rfl) (by kernel_rfl) ?_
            refine ED.done (by kernel_rfl) ?_
            refine EQ.to ?_
            refine EQ.keep [9, 10, 11, 12] [(9, .int .u64 t84), (10, .int .u64 t86), (11, .string (bStr t102)), (12, .string (bStr t108))] (by kernel_rfl) ?_
            exact fun a ha => ⟨A166, C167, A162, C163, ha, (hS.re [1, 1] [] rfl (sub_tail (sub_tail (sub_tail (sub_tail (sub_self))))))⟩
          · refine EO.Y (YO.bstr hS A166 C167 t108 (Rd.own 0 5 rfl) 22 9 5 28 (by kernel_rfl) (by kernel_rfl) (by kernel_rfl) (by kernel_rfl) (by kernel_rfl) (by kernel_rfl)) ?_
            have hC : Core B [] [] _ := ⟨_, _, hS⟩
            refine ⟨hC, ?_⟩
            refine ED.at' #[true, true, true, false, true, true, true, true, false, false] (by kernel_rfl) ?_
            refine ED.one 3 2 #[true, true, true, true, true, true, true, true, false, false] (by kernel_rfl) (by kernel_rfl) (by kernel_rfl) (EO.Y (YO.bstr hS A162 C163 t102 (Rd.own 1 5 rfl) 22 9 5 24 (by kernel_rfl) (by kernel_rfl) (by kernel_rfl) (by kernel_rfl) (by kernel_rfl) (by kernel_rfl)) ?_)
            have hC : Core B [] [] _ := ⟨_, _, hS⟩
            refine ⟨hC, ?_⟩
            refine ED.quick hN hF hC [8, 9] [9, 10, 11, 12] 0 [(9, .int .u64 t84), (10, .int .u64 t86), (11, .string (bStr t102)), (12, .string (bStr t108))] #[true, true, true, true, true, true, true, true, true, true] (by kernel_rfl) (by kernel_rfl) ?_
            refine ED.done (by kernel_rfl) ?_
            refine EQ.to ?_
            refine EQ.keep [9, 10, 11, 12] [(9, .int .u64 t84), (10, .int .u64 t86), (11, .string (bStr t102)), (12, .string (bStr t108))] (by kernel_rfl) ?_
            exact fun a ha => ⟨A166, C167, A162, C163, ha, (hS.re [1, 1] [] rfl (sub_tail (sub_tail (sub_tail (sub_tail (sub_self))))))⟩
    · obtain ⟨A138, C139, A140, C141, ha, hS⟩ := hI
      refine EQ.at ?_ a ha
      clear ha a
      refine EQ.code ?_
      refine EW.seq (x := Cd7.r.r.r.r.l) (y := Cd7.r.r.r.r.r) (by kernel_rfl) ?_
      refine EW.seq (x := Cd7.r.r.r.r.l.l) (y := Cd7.r.r.r.r.l.r) (by kernel_rfl) ?_
      refine EW.region (id := 5) (ops := Cd7.r.r.r.r.l.l.ops) (by kernel_rfl) ?_
      refine EL.quick 5 [9, 10, 11, 12, 33] [(9, .int .u64 t84), (10, .int .u64 t86), (11, .string (bStr t102)), (12, .string (bStr t108)), (33, .bool (decide (((bStr t102).size : Int) = ((bStr t108).size : Int))))] (by kernel_rfl) ?_
      refine EL.done (by kernel_rfl) ?_
      refine EQ.code ?_
      refine EW.condP (o := (.tmp 33)) (x := Cd7.r.r.r.r.l.r.l) (y := Cd7.r.r.r.r.l.r.r) (((bStr t102).size : Int) = ((bStr t108).size : Int)) (by kernel_rfl) (by kernel_rfl) (fun h169 => ?_) (fun h169 => ?_)
      · rw [if_pos h169] at H
        refine EW.seq (x := Cd7.r.r.r.r.l.r.l.l) (y := Cd7.r.r.r.r.l.r.l.r) (by kernel_rfl) ?_
        refine EW.region (id := 6) (ops := Cd7.r.r.r.r.l.r.l.l.ops) (by kernel_rfl) ?_
        refine EL.quick 8 [8] [(8, .bool (((Op.bytesLess (bStr t102).toList (bStr t108).toList) == (decide (t84 < t86)))))] (by kernel_rfl) ?_
        refine EL.done (by kernel_rfl) ?_
        refine EQ.code ?_
        refine EW.ret (by kernel_rfl) ?_
        refine EQ.ret ?_
        obtain rfl := Option.some.inj H
        exact EQ.leave (.bool (((Op.bytesLess (bStr t102).toList (bStr t108).toList) == (decide (t84 < t86))))) (by kernel_rfl) ⟨_, rfl, rfl, (hS.re [] [0, 0] rfl (sub_self))⟩
      · rw [if_neg h169] at H
        refine EW.skip (by kernel_rfl) ?_
        refine EQ.code ?_
        obtain ⟨j180, hj180, H⟩ := lt_out H
        refine EW.cut (x := Cd7.r.r.r.r.r.l) (y := Cd7.r.r.r.r.r.r) (fun a w => ∃ x176 : Int, ∃ x177 : Int, ∃ x178 : ByteArray, ∃ x179 : ByteArray, Sat 66 [(9, .int .u64 x176), (10, .int .u64 x177), (11, .string x178), (12, .string x179)] a ∧ St B w (Ass.own 5 (Kd.int .u8) A138 C139 t108 :: Ass.own 5 (Kd.int .u8) A140 C141 t102 :: os) (rs) ∧ j180 x176 x177 x178 x179 = some x69) (by kernel_rfl) ?_ (fun a w hI => ?_)
        · refine EW.seq (x := Cd7.r.r.r.r.r.l.l) (y := Cd7.r.r.r.r.r.l.r) (by kernel_rfl) ?_
          refine EW.region (id := 7) (ops := Cd7.r.r.r.r.r.l.l.ops) (by kernel_rfl) ?_
          refine EL.quick 5 [9, 10, 11, 12, 45] [(9, .int .u64 t84), (10, .int .u64 t86), (11, .string (bStr t102)), (12, .string (bStr t108)), (45, .bool (decide (((bStr t102).size : Int) > ((bStr t108).size : Int))))] (by kernel_rfl) ?_
          refine EL.done (by kernel_rfl) ?_
          refine EQ.code ?_
          refine EW.condP (o := (.tmp 45)) (x := Cd7.r.r.r.r.r.l.r.l) (y := Cd7.r.r.r.r.r.l.r.r) (((bStr t102).size : Int) > ((bStr t108).size : Int)) (by kernel_rfl) (by kernel_rfl) (fun h181 => ?_) (fun h181 => ?_)
          · rw [if_pos h181] at H
            refine EW.seq (x := Cd7.r.r.r.r.r.l.r.l.l) (y := Cd7.r.r.r.r.r.l.r.l.r) (by kernel_rfl) ?_
            refine EW.region (id := 8) (ops := Cd7.r.r.r.r.r.l.r.l.l.ops) (by kernel_rfl) ?_
            refine EL.quick 4 [9, 10, 11, 12] [(9, .int .u64 t84), (10, .int .u64 t86), (11, .string (bStr t108)), (12, .string (bStr t102))] (by kernel_rfl) ?_
            refine EL.done (by kernel_rfl) ?_
            refine EQ.code ?_
            refine EW.region (id := 9) (ops := Cd7.r.r.r.r.r.l.r.l.r.ops) (by kernel_rfl) ?_
            refine EL.quick 4 [9, 10, 11, 12] [(9, .int .u64 t86), (10, .int .u64 t84), (11, .string (bStr t108)), (12, .string (bStr t102))] (by kernel_rfl) ?_
            refine EL.done (by kernel_rfl) ?_
            refine EQ.to ?_
            refine EQ.keep [9, 10, 11, 12] [(9, .int .u64 t86), (10, .int .u64 t84), (11, .string (bStr t108)), (12, .string (bStr t102))] (by kernel_rfl) ?_
            exact fun a ha => ⟨t86, t84, (bStr t108), (bStr t102), ha, (hS.re [1, 1] [] rfl (sub_self)), H⟩
          · rw [if_neg h181] at H
            refine EW.skip (by kernel_rfl) ?_
            refine EQ.to ?_
            refine EQ.keep [9, 10, 11, 12] [(9, .int .u64 t84), (10, .int .u64 t86), (11, .string (bStr t102)), (12, .string (bStr t108))] (by kernel_rfl) ?_
            exact fun a ha => ⟨t84, t86, (bStr t102), (bStr t108), ha, (hS.re [1, 1] [] rfl (sub_self)), H⟩
        · obtain ⟨x176, x177, x178, x179, ha, hS, H⟩ := hI
          rw [hj180] at H
          (try dsimp only at H)
          refine EW.at ?_ a ha
          clear ha a
          refine EW.seq (x := Cd7.r.r.r.r.r.r.l) (y := Cd7.r.r.r.r.r.r.r) (by kernel_rfl) ?_
          refine EW.region (id := 10) (ops := Cd7.r.r.r.r.r.r.l.ops) (by kernel_rfl) ?_
          refine EL.quick 4 [11, 12, 53] [(11, .string x178), (12, .string x179), (53, .bool (decide (x176 < x177)))] (by kernel_rfl) ?_
          by_cases h182 : x176 < x177
          · rw [if_pos h182] at H
            refine EL.keep [11, 12, 53] [(11, .string x178), (12, .string x179), (53, .bool (decide (x176 < x177)))] (by kernel_rfl) ?_
            refine EL.as' [(11, .string x178), (12, .string x179), (53, .bool (true))] (by simp only [dec_t h182, Bool.not_true, Bool.not_false]) ?_
            refine EL.quick 5 [11, 12, 58] [(11, .string x178), (12, .string x179), (58, .bool (decide ((x178.size : Int) > 0)))] (by kernel_rfl) ?_
            by_cases h183 : (x178.size : Int) > 0
            · rw [if_pos h183] at H
              refine EL.keep [11, 12, 58] [(11, .string x178), (12, .string x179), (58, .bool (decide ((x178.size : Int) > 0)))] (by kernel_rfl) ?_
              refine EL.as' [(11, .string x178), (12, .string x179), (58, .bool (true))] (by simp only [dec_t h183, Bool.not_true, Bool.not_false]) ?_
              refine EL.quick 3 [11, 58, 59, 61] [(11, .string x178), (58, .bool (true)), (59, .string x179), (61, .int .i64 (x178.size : Int))] (by kernel_rfl) ?_
              obtain ⟨h184, H⟩ := ite_in H
              obtain ⟨h185, H⟩ := ite_in H
              refine EL.of (EO.Y (YO.strSlice x179 none (some (.int .i64 (x178.size : Int))) 0 ((x178.size : Int).toNat) 9 62 (by kernel_rfl) (by kernel_rfl) (by kernel_rfl) (by kernel_rfl) (rfl) ((Int.toNat_of_nonneg (by omega)).symm) (by omega) (by omega)) ?_)
              refine EL.quick 4 [8] [(8, .bool (!(((x179.extract 0 ((x178.size : Int).toNat)).toList == x178.toList))))] (by kernel_rfl) ?_
              refine EL.done (by kernel_rfl) ?_
              refine EQ.code ?_
              refine EW.ret (by kernel_rfl) ?_
              obtain rfl := Option.some.inj H
              exact EQ.leave (.bool (!(((x179.extract 0 ((x178.size : Int).toNat)).toList == x178.toList)))) (by kernel_rfl) ⟨_, rfl, rfl, (hS.re [] [0, 0] rfl (sub_self))⟩
            · rw [if_neg h183] at H
              refine EL.keep [11, 12, 58] [(11, .string x178), (12, .string x179), (58, .bool (decide ((x178.size : Int) > 0)))] (by kernel_rfl) ?_
              refine EL.as' [(11, .string x178), (12, .string x179), (58, .bool (false))] (by simp only [dec_f h183, Bool.not_true, Bool.not_false]) ?_
              refine EL.quick 8 [8] [(8, .bool (false))] (by kernel_rfl) ?_
              refine EL.done (by kernel_rfl) ?_
              refine EQ.code ?_
              refine EW.ret (by kernel_rfl) ?_
              obtain rfl := Option.some.inj H
              exact EQ.leave (.bool (false)) (by kernel_rfl) ⟨_, rfl, rfl, (hS.re [] [0, 0] rfl (sub_self))⟩
          · rw [if_neg h182] at H
            refine EL.keep [11, 12, 53] [(11, .string x178), (12, .string x179), (53, .bool (decide (x176 < x177)))] (by kernel_rfl) ?_
            refine EL.as' [(11, .string x178), (12, .string x179), (53, .bool (false))] (by simp only [dec_f h182, Bool.not_true, Bool.not_false]) ?_
            refine EL.quick 13 [8] [(8, .bool (false))] (by kernel_rfl) ?_
            refine EL.done (by kernel_rfl) ?_
            refine EQ.code ?_
            refine EW.ret (by kernel_rfl) ?_
            obtain rfl := Option.some.inj H
            exact EQ.leave (.bool (false)) (by kernel_rfl) ⟨_, rfl, rfl, (hS.re [] [0, 0] rfl (sub_self))⟩
  · rw [if_neg h79] at H
    refine EW.seq (x := Cd7.r.l.r.l.l) (y := Cd7.r.l.r.l.r) (by kernel_rfl) ?_
    refine EW.region (id := 2) (ops := Cd7.r.l.r.l.l.ops) (by kernel_rfl) ?_
    refine EL.quick 1 [8] [(8, .bool (false))] (by kernel_rfl) ?_
    refine EL.done (by kernel_rfl) ?_
    refine EQ.code ?_
    refine EW.ret (by kernel_rfl) ?_
    refine EQ.ret ?_
    obtain rfl := Option.some.inj H
    exact EQ.leave (.bool (false)) (by kernel_rfl) ⟨_, rfl, rfl, (hS.re [] [] rfl (sub_self))⟩

def confidantlaw1_PackOrders.Pure : Prop := ∀ (a5 : Int) (a6 : Int) (a7 : Int) (a8 : Int), (Lit.int .u64 a5).wf = true → (Lit.int .u64 a6).wf = true → (Lit.int .u8 a7).wf = true → (Lit.int .u8 a8).wf = true → ∃ K, confidantlaw1_PackOrders.f K a5 a6 a7 a8 = some true

structure S48 where
  f0 : Bool
  f1 : Int
deriving DecidableEq
def zS48 : S48 := ⟨false, 0⟩
def kS48 : Kd S48 := Kd.iso (Kd.prod Kd.bool (Kd.prod (Kd.int .u64) Kd.unit)) (fun s => (s.f0, s.f1, ()))
def encS48 (s : S48) : List Value := [.bool (s.f0), .int .u64 s.f1]
theorem encS48_of (w : World) (G : Bl) (vs : List Value) (x : S48) (h : kS48.rep w G vs x) : vs = encS48 x := by
  obtain ⟨_, _, rfl, h0, ⟨_, _, rfl, h1, hu⟩⟩ := h
  have h0 := encB_of _ _ _ _ h0
  have h1 := encI_of _ _ _ _ h1
  have hu : _ = [] := hu
  subst hu
  subst h0
  subst h1
  rfl

noncomputable def Cd5 : Code := bodyOf Try.f5

noncomputable def Cd21 : Code := bodyOf Try.f21

noncomputable def Cd23 : Code := bodyOf Try.f23

noncomputable def Cd27 : Code := bodyOf Try.f27

noncomputable def Cd29 : Code := bodyOf Try.f29

noncomputable def Cd49 : Code := bodyOf Try.f49

/-! ### confidant/confidantref1.Put: function 23 -/
def confidantref1_Put.l1 (K : Nat) (j5089 : (List Int) → Option (List Int)) : Nat → (List Int) → Int → Option (List Int)
  | 0, _, _ => none
  | n + 1, x5112, x5115 => if x5115 > 0 then (lt ([bO .u8 (IntKind.u8.wrap (bA .u64 x5115 127)) 128] : List Int) fun l5147 => (if (l5147.length + x5112.length) * 1 ≤ 140737488355328 then (lt (l5147 ++ x5112) fun l5149 => (confidantref1_Put.l1 K j5089 n l5149 (sR .u64 x5115 7))) else none)) else (j5089 x5112)
def confidantref1_Put.l0 (K : Nat) (l92 : List Int) : Nat → (List Int) → Int → Option (List Int)
  | 0, _, _ => none
  | n + 1, x3894, x3898 => if x3898 < (l92.length : Int) then (lt (fun (x4944 : List Int) (x4947 : List Int) => (confidantref1_Put.l0 K l92 n x4944 (IntKind.i64.wrap (x3898 + 1)))) fun j4950 => (if 0 ≤ x3898 then (lt ([IntKind.u8.wrap (bA .u64 (l92.getD x3898.toNat 0) 127)] : List Int) fun l4958 => (lt (fun (x5086 : List Int) => (if (x3894.length + x5086.length) * 1 ≤ 140737488355328 then (lt (x3894 ++ x5086) fun l5153 => (j4950 l5153 x5086)) else none)) fun j5089 => (confidantref1_Put.l1 K j5089 K l4958 (sR .u64 (l92.getD x3898.toNat 0) 7)))) else none)) else (some x3894)
def confidantref1_Put.f (K : Nat) (l92 : List Int) : Option (List Int) := confidantref1_Put.l0 K l92 K ([] : List Int) 0
set_option maxRecDepth 100000 in
theorem confidantref1_Put.calls {K : Nat} {l92 : List Int} {A93 : Option Addr} {C94 : Nat} {x2623 : List Int} {B w : World} {os : List Ass} {rs : List Ro} (H : confidantref1_Put.f K l92 = some x2623) (hS : St B w (os) (Ro.sl (Kd.int .u64) A93 C94 l92 :: rs)) :
    Calls Try.prog 23 [.slice A93 l92.length C94].toArray w (fun en w' => ∃ v, en = .returned v ∧ ∃ A2624 : Option Addr, ∃ C2625 : Nat, v = .slice A2624 x2623.length C2625 ∧ St B w' (Ass.own 5 (Kd.int .u8) A2624 C2625 x2623 :: os) (Ro.sl (Kd.int .u64) A93 C94 l92 :: rs)) := by
  unfold confidantref1_Put.f at H
  refine calls_of_EW (args := [.slice A93 l92.length C94]) (c := Cd23) 40 Try.func23 (by kernel_rfl) (by kernel_rfl) (by kernel_rfl) ?_
  refine EW.seq (x := Cd23.l) (y := Cd23.r) (by kernel_rfl) ?_
  refine EW.region (id := 0) (ops := Cd23.l.ops) (by kernel_rfl) ?_
  refine EL.quick 1 [0] [(0, .slice A93 l92.length C94)] (by kernel_rfl) ?_
  refine EL.done (by kernel_rfl) ?_
  refine EQ.code ?_
  refine EW.seq (x := Cd23.r.l) (y := Cd23.r.r) (by kernel_rfl) ?_
  refine EW.region (id := 1) (ops := Cd23.r.l.ops) (by kernel_rfl) ?_
  refine EL.quick 1 [0, 3] [(0, .slice A93 l92.length C94), (3, .slice none ([] : List Int).length 0)] (by kernel_rfl) ?_
  refine EL.done (by kernel_rfl) ?_
  refine EQ.code ?_
  refine EW.seq (x := Cd23.r.r.l) (y := Cd23.r.r.r) (by kernel_rfl) ?_
  refine EW.seq (x := Cd23.r.r.l.l) (y := Cd23.r.r.l.r) (by kernel_rfl) ?_
  refine EW.region (id := 2) (ops := Cd23.r.r.l.l.ops) (by kernel_rfl) ?_
  refine EL.quick 1 [0, 3, 4] [(0, .slice A93 l92.length C94), (3, .slice none ([] : List Int).length 0), (4, .int .i64 0)] (by kernel_rfl) ?_
  refine EL.done (by kernel_rfl) ?_
  refine EQ.code ?_
  refine EW.block (x := Cd23.r.r.l.r.l) (id := 0) (by kernel_rfl) ?_
  have hS := St.nilO hS 5 (Kd.int .u8)
  refine EW.loop (x := Cd23.r.r.l.r.l.l) (fun n a w => ∃ x3894 : List Int, ∃ x3898 : Int, ∃ A3895 : Option Addr, ∃ C3896 : Nat, Sat 40 [(0, .slice A93 l92.length C94), (3, .slice A3895 x3894.length C3896), (4, .int .i64 x3898)] a ∧ St B w (Ass.own 5 (Kd.int .u8) A3895 C3896 x3894 :: os) (Ro.sl (Kd.int .u64) A93 C94 l92 :: rs) ∧ confidantref1_Put.l0 K l92 n x3894 x3898 = some x2623) K (by kernel_rfl) ?_ (fun n a w hI => ?_)
  · refine EQ.keep [0, 3, 4] [(0, .slice A93 l92.length C94), (3, .slice none ([] : List Int).length 0), (4, .int .i64 0)] (by kernel_rfl) ?_
    exact fun a ha => ⟨([] : List Int), 0, none, 0, ha, (hS.re [0] [] rfl (sub_cons 0 rfl (sub_tail (sub_self)))), H⟩
  · obtain ⟨x3894, x3898, A3895, C3896, ha, hS, H⟩ := hI
    obtain _ | n := n
    · simp [confidantref1_Put.l0] at H
    rw [confidantref1_Put.l0.eq_2] at H
    refine EW.at ?_ a ha
    clear ha a
    refine EW.seq (x := Cd23.r.r.l.r.l.l.l) (y := Cd23.r.r.l.r.l.l.r) (by kernel_rfl) ?_
    refine EW.seq (x := Cd23.r.r.l.r.l.l.l.l) (y := Cd23.r.r.l.r.l.l.l.r) (by kernel_rfl) ?_
    refine EW.region (id := 3) (ops := Cd23.r.r.l.r.l.l.l.l.ops) (by kernel_rfl) ?_
    refine EL.quick 4 [0, 3, 4, 10] [(0, .slice A93 l92.length C94), (3, .slice A3895 x3894.length C3896), (4, .int .i64 x3898), (10, .bool (decide (x3898 < (l92.length : Int))))] (by kernel_rfl) ?_
    refine EL.done (by kernel_rfl) ?_
    refine EQ.code ?_
    refine EW.condP (o := (.tmp 10)) (x := Cd23.r.r.l.r.l.l.l.r.l) (y := Cd23.r.r.l.r.l.l.l.r.r) (x3898 < (l92.length : Int)) (by kernel_rfl) (by kernel_rfl) (fun h4533 => ?_) (fun h4533 => ?_)
    · rw [if_pos h4533] at H
      refine EW.skip (by kernel_rfl) ?_
      refine EQ.code ?_
      obtain ⟨j4950, hj4950, H⟩ := lt_out H
      refine EW.cut (x := Cd23.r.r.l.r.l.l.r.l) (y := Cd23.r.r.l.r.l.l.r.r) (fun a w => ∃ x4944 : List Int, ∃ x4947 : List Int, ∃ A4945 : Option Addr, ∃ C4946 : Nat, ∃ A4948 : Option Addr, ∃ C4949 : Nat, Sat 40 [(0, .slice A93 l92.length C94), (3, .slice A4945 x4944.length C4946), (4, .int .i64 x3898)] a ∧ St B w (Ass.own 5 (Kd.int .u8) A4945 C4946 x4944 :: Ass.own 5 (Kd.int .u8) A4948 C4949 x4947 :: os) (Ro.sl (Kd.int .u64) A93 C94 l92 :: rs) ∧ j4950 x4944 x4947 = some x2623) (by kernel_rfl) ?_ (fun a w hI => ?_)
      · refine EW.block (x := Cd23.r.r.l.r.l.l.r.l.l) (id := 1) (by kernel_rfl) ?_
        refine EW.seq (x := Cd23.r.r.l.r.l.l.r.l.l.l) (y := Cd23.r.r.l.r.l.l.r.l.l.r) (by kernel_rfl) ?_
        refine EW.region (id := 5) (ops := Cd23.r.r.l.r.l.l.r.l.l.l.ops) (by kernel_rfl) ?_
        refine EL.quick 2 [0, 3, 4, 13, 14] [(0, .slice A93 l92.length C94), (3, .slice A3895 x3894.length C3896), (4, .int .i64 x3898), (13, .slice A93 l92.length C94), (14, .int .i64 x3898)] (by kernel_rfl) ?_
        obtain ⟨h4955, H⟩ := ite_in H
        obtain ⟨ad4956, rfl⟩ := St.rd_some hS (Rd.ro 0 rfl) h4955 h4533
        refine EL.of (EO.Y (YO.idx 36 1 ad4956 l92.length C94 .i64 x3898 15 (by kernel_rfl) (by kernel_rfl) (by kernel_rfl) (by kernel_rfl) h4955 h4533) ?_)
        refine EL.of (EO.Y (YO.loadEl hS (Kd.int .u64) ad4956 C94 l92 (Rd.ro 0 rfl) 0 (encI .u64) encI_of x3898 h4955 h4533 23 1 0 1 rfl (.int .u64 (l92.getD x3898.toNat 0)) 16 (by kernel_rfl) (by kernel_rfl) (by kernel_rfl) (by kernel_rfl)) ?_)
        refine EL.quick 2 [0, 3, 4, 18] [(0, .slice (some ad4956) l92.length C94), (3, .slice A3895 x3894.length C3896), (4, .int .i64 x3898), (18, .int .u8 (IntKind.u8.wrap (bA .u64 (l92.getD x3898.toNat 0) 127)))] (by kernel_rfl) ?_
        obtain ⟨l4958, hl4958, H⟩ := lt_out H
        refine EL.of (EO.lit hS (Kd.int .u8) 5 22 1 #[(0, .int .u8 (IntKind.u8.wrap (bA .u64 (l92.getD x3898.toNat 0) 127)))] [.int .u8 (IntKind.u8.wrap (bA .u64 (l92.getD x3898.toNat 0) 127))] l4958 19 (by kernel_rfl) (by kernel_rfl) (by kernel_rfl) (fun _ => (by kernel_rfl)) (by rw [hl4958]; rfl) (by kernel_rfl) (fun w G hr => (by rw [hl4958]; exact ⟨[.int .u8 (IntKind.u8.wrap (bA .u64 (l92.getD x3898.toNat 0) 127))], [], rfl, rfl, rfl⟩)) ?_)
        intro g4957 w hS
        refine EL.quick 1 [0, 3, 4, 5] [(0, .slice (some ad4956) l92.length C94), (3, .slice A3895 x3894.length C3896), (4, .int .i64 x3898), (5, .slice (some ⟨g4957, 0, none⟩) l4958.length 1)] (by kernel_rfl) ?_
        refine EL.done (by kernel_rfl) ?_
        refine EQ.code ?_
        obtain ⟨j5089, hj5089, H⟩ := lt_out H
        refine EW.cut (x := Cd23.r.r.l.r.l.l.r.l.l.r.l) (y := Cd23.r.r.l.r.l.l.r.l.l.r.r) (fun a w => ∃ x5086 : List Int, ∃ A5087 : Option Addr, ∃ C5088 : Nat, Sat 40 [(0, .slice (some ad4956) l92.length C94), (3, .slice A3895 x3894.length C3896), (4, .int .i64 x3898), (5, .slice A5087 x5086.length C5088)] a ∧ St B w (Ass.own 5 (Kd.int .u8) A3895 C3896 x3894 :: Ass.own 5 (Kd.int .u8) A5087 C5088 x5086 :: os) (Ro.sl (Kd.int .u64) (some ad4956) C94 l92 :: rs) ∧ j5089 x5086 = some x2623) (by kernel_rfl) ?_ (fun a w hI => ?_)
        · refine EW.seq (x := Cd23.r.r.l.r.l.l.r.l.l.r.l.l) (y := Cd23.r.r.l.r.l.l.r.l.l.r.l.r) (by kernel_rfl) ?_
          refine EW.region (id := 6) (ops := Cd23.r.r.l.r.l.l.r.l.l.r.l.l.ops) (by kernel_rfl) ?_
          refine EL.quick 2 [0, 3, 4, 5, 20, 21] [(0, .slice (some ad4956) l92.length C94), (3, .slice A3895 x3894.length C3896), (4, .int .i64 x3898), (5, .slice (some ⟨g4957, 0, none⟩) l4958.length 1), (20, .slice (some ad4956) l92.length C94), (21, .int .i64 x3898)] (by kernel_rfl) ?_
          refine EL.of (EO.Y (YO.idx 36 1 ad4956 l92.length C94 .i64 x3898 22 (by kernel_rfl) (by kernel_rfl) (by kernel_rfl) (by kernel_rfl) h4955 h4533) ?_)
          refine EL.of (EO.Y (YO.loadEl hS (Kd.int .u64) ad4956 C94 l92 (Rd.ro 0 rfl) 0 (encI .u64) encI_of x3898 h4955 h4533 23 1 0 1 rfl (.int .u64 (l92.getD x3898.toNat 0)) 23 (by kernel_rfl) (by kernel_rfl) (by kernel_rfl) (by kernel_rfl)) ?_)
          refine EL.quick 2 [0, 3, 4, 5, 6] [(0, .slice (some ad4956) l92.length C94), (3, .slice A3895 x3894.length C3896), (4, .int .i64 x3898), (5, .slice (some ⟨g4957, 0, none⟩) l4958.length 1), (6, .int .u64 (sR .u64 (l92.getD x3898.toNat 0) 7))] (by kernel_rfl) ?_
          refine EL.done (by kernel_rfl) ?_
          refine EQ.code ?_
          refine EW.block (x := Cd23.r.r.l.r.l.l.r.l.l.r.l.r.l) (id := 2) (by kernel_rfl) ?_
          refine EW.loop (x := Cd23.r.r.l.r.l.l.r.l.l.r.l.r.l.l) (fun n a w => ∃ x5112 : List Int, ∃ x5115 : Int, ∃ A5113 : Option Addr, ∃ C5114 : Nat, Sat 40 [(0, .slice (some ad4956) l92.length C94), (3, .slice A3895 x3894.length C3896), (4, .int .i64 x3898), (5, .slice A5113 x5112.length C5114), (6, .int .u64 x5115)] a ∧ St B w (Ass.own 5 (Kd.int .u8) A3895 C3896 x3894 :: Ass.own 5 (Kd.int .u8) A5113 C5114 x5112 :: os) (Ro.sl (Kd.int .u64) (some ad4956) C94 l92 :: rs) ∧ confidantref1_Put.l1 K j5089 n x5112 x5115 = some x2623) K (by kernel_rfl) ?_ (fun n a w hI => ?_)
          · refine EQ.keep [0, 3, 4, 5, 6] [(0, .slice (some ad4956) l92.length C94), (3, .slice A3895 x3894.length C3896), (4, .int .i64 x3898), (5, .slice (some ⟨g4957, 0, none⟩) l4958.length 1), (6, .int .u64 (sR .u64 (l92.getD x3898.toNat 0) 7))] (by kernel_rfl) ?_
            exact fun a ha => ⟨l4958, sR .u64 (l92.getD x3898.toNat 0) 7, (some ⟨g4957, 0, none⟩), 1, ha, (hS.re [0, 1] [] rfl (sub_cons 0 rfl (sub_tail (sub_self)))), H⟩
          · obtain ⟨x5112, x5115, A5113, C5114, ha, hS, H⟩ := hI
            obtain _ | n := n
            · simp [confidantref1_Put.l1] at H
            rw [confidantref1_Put.l1.eq_2] at H
            refine EW.at ?_ a ha
            clear ha a
            refine EW.seq (x := Cd23.r.r.l.r.l.l.r.l.l.r.l.r.l.l.l) (y := Cd23.r.r.l.r.l.l.r.l.l.r.l.r.l.l.r) (by kernel_rfl) ?_
            refine EW.seq (x := Cd23.r.r.l.r.l.l.r.l.l.r.l.r.l.l.l.l) (y := Cd23.r.r.l.r.l.l.r.l.l.r.l.r.l.l.l.r) (by kernel_rfl) ?_
            refine EW.region (id := 7) (ops := Cd23.r.r.l.r.l.l.r.l.l.r.l.r.l.l.l.l.ops) (by kernel_rfl) ?_
            refine EL.quick 2 [0, 3, 4, 5, 6, 26] [(0, .slice (some ad4956) l92.length C94), (3, .slice A3895 x3894.length C3896), (4, .int .i64 x3898), (5, .slice A5113 x5112.length C5114), (6, .int .u64 x5115), (26, .bool (decide (x5115 > 0)))] (by kernel_rfl) ?_
            refine EL.done (by kernel_rfl) ?_
            refine EQ.code ?_
            refine EW.condP (o := (.tmp 26)) (x := Cd23.r.r.l.r.l.l.r.l.l.r.l.r.l.l.l.r.l) (y := Cd23.r.r.l.r.l.l.r.l.l.r.l.r.l.l.l.r.r) (x5115 > 0) (by kernel_rfl) (by kernel_rfl) (fun h5139 => ?_) (fun h5139 => ?_)
            · rw [if_pos h5139] at H
              refine EW.skip (by kernel_rfl) ?_
              refine EQ.code ?_
              refine EW.seq (x := Cd23.r.r.l.r.l.l.r.l.l.r.l.r.l.l.r.l) (y := Cd23.r.r.l.r.l.l.r.l.l.r.l.r.l.l.r.r) (by kernel_rfl) ?_
              refine EW.block (x := Cd23.r.r.l.r.l.l.r.l.l.r.l.r.l.l.r.l.l) (id := 3) (by kernel_rfl) ?_
              refine EW.region (id := 9) (ops := Cd23.r.r.l.r.l.l.r.l.l.r.l.r.l.l.r.l.l.ops) (by kernel_rfl) ?_
              refine EL.quick 4 [0, 3, 4, 5, 6, 32] [(0, .slice (some ad4956) l92.length C94), (3, .slice A3895 x3894.length C3896), (4, .int .i64 x3898), (5, .slice A5113 x5112.length C5114), (6, .int .u64 x5115), (32, .int .u8 (bO .u8 (IntKind.u8.wrap (bA .u64 x5115 127)) 128))] (by kernel_rfl) ?_
              obtain ⟨l5147, hl5147, H⟩ := lt_out H
              refine EL.of (EO.lit hS (Kd.int .u8) 5 22 1 #[(0, .int .u8 (bO .u8 (IntKind.u8.wrap (bA .u64 x5115 127)) 128))] [.int .u8 (bO .u8 (IntKind.u8.wrap (bA .u64 x5115 127)) 128)] l5147 33 (by kernel_rfl) (by kernel_rfl) (by kernel_rfl) (fun _ => (by kernel_rfl)) (by rw [hl5147]; rfl) (by kernel_rfl) (fun w G hr => (by rw [hl5147]; exact ⟨[.int .u8 (bO .u8 (IntKind.u8.wrap (bA .u64 x5115 127)) 128)], [], rfl, rfl, rfl⟩)) ?_)
              intro g5146 w hS
              refine EL.quick 1 [0, 3, 4, 6, 33, 34] [(0, .slice (some ad4956) l92.length C94), (3, .slice A3895 x3894.length C3896), (4, .int .i64 x3898), (6, .int .u64 x5115), (33, .slice (some ⟨g5146, 0, none⟩) l5147.length 1), (34, .slice A5113 x5112.length C5114)] (by kernel_rfl) ?_
              obtain ⟨h5148, H⟩ := ite_in H
              obtain ⟨l5149, hl5149, H⟩ := lt_out H
              refine EL.of (EO.append hS 22 22 5 1 0 (Kd.int .u8) (some ⟨g5146, 0, none⟩) 1 l5147 rfl A5113 C5114 x5112 (Rd.own 2 5 rfl) l5149 hl5149 (fun A5150 C5151 => Ass.own 5 (Kd.int .u8) A5150 C5151 l5149 :: Ass.own 5 (Kd.int .u8) A3895 C3896 x3894 :: Ass.own 5 (Kd.int .u8) A5113 C5114 x5112 :: os) 35 (by kernel_rfl) (by kernel_rfl) (by kernel_rfl) (by kernel_rfl) h5148 (fun _ _ => rfl) ?_)
              intro A5150 C5151 w hS
              refine EL.quick 1 [0, 3, 4, 5, 6] [(0, .slice (some ad4956) l92.length C94), (3, .slice A3895 x3894.length C3896), (4, .int .i64 x3898), (5, .slice A5150 l5149.length C5151), (6, .int .u64 x5115)] (by kernel_rfl) ?_
              refine EL.done (by kernel_rfl) ?_
              refine EQ.pop ?_
              refine EQ.code ?_
              refine EW.region (id := 8) (ops := Cd23.r.r.l.r.l.l.r.l.l.r.l.r.l.l.r.r.ops) (by kernel_rfl) ?_
              refine EL.quick 3 [0, 3, 4, 5, 6] [(0, .slice (some ad4956) l92.length C94), (3, .slice A3895 x3894.length C3896), (4, .int .i64 x3898), (5, .slice A5150 l5149.length C5151), (6, .int .u64 (sR .u64 x5115 7))] (by kernel_rfl) ?_
              refine EL.done (by kernel_rfl) ?_
              refine EQ.to ?_
              refine EQ.keep [0, 3, 4, 5, 6] [(0, .slice (some ad4956) l92.length C94), (3, .slice A3895 x3894.length C3896), (4, .int .i64 x3898), (5, .slice A5150 l5149.length C5151), (6, .int .u64 (sR .u64 x5115 7))] (by kernel_rfl) ?_
              exact fun a ha => ⟨n, Nat.lt_succ_self n, l5149, sR .u64 x5115 7, A5150, C5151, ha, (hS.re [0, 1] [2] rfl (sub_cons 0 rfl (sub_tail (sub_self)))), H⟩
            · rw [if_neg h5139] at H
              refine EW.exit (id := 2) (by kernel_rfl) ?_
              refine EQ.exitCode ?_
              refine EQ.exitTo ?_
              refine EQ.exitHere ?_
              refine EQ.to ?_
              refine EQ.keep [0, 3, 4, 5] [(0, .slice (some ad4956) l92.length C94), (3, .slice A3895 x3894.length C3896), (4, .int .i64 x3898), (5, .slice A5113 x5112.length C5114)] (by kernel_rfl) ?_
              exact fun a ha => ⟨x5112, A5113, C5114, ha, (hS.re [1, 1] [] rfl (sub_cons 0 rfl (sub_tail (sub_self)))), H⟩
        · obtain ⟨x5086, A5087, C5088, ha, hS, H⟩ := hI
          rw [hj5089] at H
          (try dsimp only at H)
          refine EW.at ?_ a ha
          clear ha a
          refine EW.region (id := 10) (ops := Cd23.r.r.l.r.l.l.r.l.l.r.r.ops) (by kernel_rfl) ?_
          refine EL.quick 2 [0, 4, 36, 37] [(0, .slice (some ad4956) l92.length C94), (4, .int .i64 x3898), (36, .slice A3895 x3894.length C3896), (37, .slice A5087 x5086.length C5088)] (by kernel_rfl) ?_
          obtain ⟨h5152, H⟩ := ite_in H
          obtain ⟨l5153, hl5153, H⟩ := lt_out H
          refine EL.of (EO.append hS 22 22 5 1 0 (Kd.int .u8) A3895 C3896 x3894 rfl A5087 C5088 x5086 (Rd.own 1 5 rfl) l5153 hl5153 (fun A5154 C5155 => Ass.own 5 (Kd.int .u8) A5154 C5155 l5153 :: Ass.own 5 (Kd.int .u8) A5087 C5088 x5086 :: os) 38 (by kernel_rfl) (by kernel_rfl) (by kernel_rfl) (by kernel_rfl) h5152 (fun _ _ => rfl) ?_)
          intro A5154 C5155 w hS
          refine EL.quick 1 [0, 3, 4] [(0, .slice (some ad4956) l92.length C94), (3, .slice A5154 l5153.length C5155), (4, .int .i64 x3898)] (by kernel_rfl) ?_
          refine EL.done (by kernel_rfl) ?_
          refine EQ.pop ?_
          refine EQ.to ?_
          refine EQ.keep [0, 3, 4] [(0, .slice (some ad4956) l92.length C94), (3, .slice A5154 l5153.length C5155), (4, .int .i64 x3898)] (by kernel_rfl) ?_
          exact fun a ha => ⟨l5153, x5086, A5154, C5155, A5087, C5088, ha, (hS.re [1, 1] [] rfl (sub_cons 0 rfl (sub_tail (sub_self)))), H⟩
      · obtain ⟨x4944, x4947, A4945, C4946, A4948, C4949, ha, hS, H⟩ := hI
        rw [hj4950] at H
        (try dsimp only at H)
        refine EW.at ?_ a ha
        clear ha a
        refine EW.region (id := 4) (ops := Cd23.r.r.l.r.l.l.r.r.ops) (by kernel_rfl) ?_
        refine EL.quick 3 [0, 3, 4] [(0, .slice A93 l92.length C94), (3, .slice A4945 x4944.length C4946), (4, .int .i64 (IntKind.i64.wrap (x3898 + 1)))] (by kernel_rfl) ?_
        refine EL.done (by kernel_rfl) ?_
        refine EQ.to ?_
        refine EQ.keep [0, 3, 4] [(0, .slice A93 l92.length C94), (3, .slice A4945 x4944.length C4946), (4, .int .i64 (IntKind.i64.wrap (x3898 + 1)))] (by kernel_rfl) ?_
        exact fun a ha => ⟨n, Nat.lt_succ_self n, x4944, IntKind.i64.wrap (x3898 + 1), A4945, C4946, ha, (hS.re [0] [1] rfl (sub_cons 0 rfl (sub_tail (sub_self)))), H⟩
    · rw [if_neg h4533] at H
      refine EW.exit (id := 0) (by kernel_rfl) ?_
      refine EQ.exitCode ?_
      refine EQ.exitTo ?_
      refine EQ.exitHere ?_
      refine EQ.code ?_
      refine EW.seq (x := Cd23.r.r.r.l) (y := Cd23.r.r.r.r) (by kernel_rfl) ?_
      refine EW.region (id := 11) (ops := Cd23.r.r.r.l.ops) (by kernel_rfl) ?_
      refine EL.quick 2 [2] [(2, .slice A3895 x3894.length C3896)] (by kernel_rfl) ?_
      refine EL.done (by kernel_rfl) ?_
      refine EQ.code ?_
      refine EW.ret (by kernel_rfl) ?_
      obtain rfl := Option.some.inj H
      exact EQ.leave (.slice A3895 x3894.length C3896) (by kernel_rfl) ⟨_, rfl, A3895, C3896, rfl, (hS.re [0] [] rfl (sub_self))⟩

/-! ### confidant/confidantref1.Lump: function 21 -/
def confidantref1_Lump.f (K : Nat) (l87 : List Int) : Option (List Int) := lt ([IntKind.u64.wrap (l87.length : Int)] : List Int) fun l5168 => (b1 (confidantref1_Put.f K l5168) fun (t5169 : List Int) => (if (t5169.length + l87.length) * 1 ≤ 140737488355328 then (lt (t5169 ++ l87) fun l5174 => (some l5174)) else none))
set_option maxRecDepth 100000 in
theorem confidantref1_Lump.calls {K : Nat} {l87 : List Int} {A88 : Option Addr} {C89 : Nat} {x5164 : List Int} {B w : World} {os : List Ass} {rs : List Ro} (H : confidantref1_Lump.f K l87 = some x5164) (hS : St B w (os) (Ro.sl (Kd.int .u8) A88 C89 l87 :: rs)) :
    Calls Try.prog 21 [.slice A88 l87.length C89].toArray w (fun en w' => ∃ v, en = .returned v ∧ ∃ A5165 : Option Addr, ∃ C5166 : Nat, v = .slice A5165 x5164.length C5166 ∧ St B w' (Ass.own 5 (Kd.int .u8) A5165 C5166 x5164 :: os) (Ro.sl (Kd.int .u8) A88 C89 l87 :: rs)) := by
  unfold confidantref1_Lump.f at H
  refine calls_of_EW (args := [.slice A88 l87.length C89]) (c := Cd21) 10 Try.func21 (by kernel_rfl) (by kernel_rfl) (by kernel_rfl) ?_
  refine EW.seq (x := Cd21.l) (y := Cd21.r) (by kernel_rfl) ?_
  refine EW.region (id := 0) (ops := Cd21.l.ops) (by kernel_rfl) ?_
  refine EL.quick 1 [0] [(0, .slice A88 l87.length C89)] (by kernel_rfl) ?_
  refine EL.done (by kernel_rfl) ?_
  refine EQ.code ?_
  refine EW.seq (x := Cd21.r.l) (y := Cd21.r.r) (by kernel_rfl) ?_
  refine EW.region (id := 1) (ops := Cd21.r.l.ops) (by kernel_rfl) ?_
  refine EL.quick 3 [0, 5] [(0, .slice A88 l87.length C89), (5, .int .u64 (IntKind.u64.wrap (l87.length : Int)))] (by kernel_rfl) ?_
  obtain ⟨l5168, hl5168, H⟩ := lt_out H
  refine EL.of (EO.lit hS (Kd.int .u64) 23 36 1 #[(0, .int .u64 (IntKind.u64.wrap (l87.length : Int)))] [.int .u64 (IntKind.u64.wrap (l87.length : Int))] l5168 6 (by kernel_rfl) (by kernel_rfl) (by kernel_rfl) (fun _ => (by kernel_rfl)) (by rw [hl5168]; rfl) (by kernel_rfl) (fun w G hr => (by rw [hl5168]; exact ⟨[.int .u64 (IntKind.u64.wrap (l87.length : Int))], [], rfl, rfl, rfl⟩)) ?_)
  intro g5167 w hS
  have hS := St.fr hS 0 rfl
  have hS : St B _ (os) (Ro.sl (Kd.int .u64) (some ⟨g5167, 0, none⟩) 1 l5168 :: Ro.sl (Kd.int .u64) (some ⟨g5167, 0, none⟩) 1 l5168 :: Ro.sl (Kd.int .u8) A88 C89 l87 :: rs) := hS.re [] [] rfl (sub_cons 0 rfl sub_self)
  obtain ⟨t5169, hc5172, H⟩ := b1_out H
  refine EL.of (EO.callD 23 [.slice (some ⟨g5167, 0, none⟩) l5168.length 1] _ 7 (by kernel_rfl) (by kernel_rfl) (by kernel_rfl) (confidantref1_Put.calls hc5172 hS) ?_)
  rintro v w ⟨A5170, C5171, rfl, hS⟩
  refine EL.quick 1 [7, 8] [(7, .slice A5170 t5169.length C5171), (8, .slice A88 l87.length C89)] (by kernel_rfl) ?_
  obtain ⟨h5173, H⟩ := ite_in H
  obtain ⟨l5174, hl5174, H⟩ := lt_out H
  refine EL.of (EO.append hS 22 22 5 1 0 (Kd.int .u8) A5170 C5171 t5169 rfl A88 C89 l87 (Rd.ro 2 rfl) l5174 hl5174 (fun A5175 C5176 => Ass.own 5 (Kd.int .u8) A5175 C5176 l5174 :: os) 9 (by kernel_rfl) (by kernel_rfl) (by kernel_rfl) (by kernel_rfl) h5173 (fun _ _ => rfl) ?_)
  intro A5175 C5176 w hS
  refine EL.quick 1 [2] [(2, .slice A5175 l5174.length C5176)] (by kernel_rfl) ?_
  refine EL.done (by kernel_rfl) ?_
  refine EQ.code ?_
  refine EW.ret (by kernel_rfl) ?_
  obtain rfl := Option.some.inj H
  exact EQ.leave (.slice A5175 l5174.length C5176) (by kernel_rfl) ⟨_, rfl, A5175, C5176, rfl, (hS.re [0] [] rfl (sub_tail (sub_tail (sub_self))))⟩

/-! ### (*confidant/confidantref1.Reader).fail: function 49 -/
def confidantref1_Reader_fail.f (K : Nat) (l7649 : List Int) (a7652 : Int) (a7653 : Int) : Option (List Int × Int) := some (([] : List Int), a7653)
set_option maxRecDepth 100000 in
theorem confidantref1_Reader_fail.calls {K : Nat} {l7649 : List Int} {a7652 : Int} {a7653 : Int} {g7648 : Nat} {A7650 : Option Addr} {C7651 : Nat} {x7654 : List Int} {x7657 : Int} {B w : World} {os : List Ass} {rs : List Ro} (H : confidantref1_Reader_fail.f K l7649 a7652 a7653 = some (x7654, x7657)) (hS : St B w (Ass.box 46 g7648 [.slice A7650 l7649.length C7651, .int .i64 a7652] :: os) (Ro.sl (Kd.int .u8) A7650 C7651 l7649 :: rs)) :
    Calls Try.prog 49 [.pointer (some ⟨g7648, 0, none⟩), .int .i64 a7653].toArray w (fun en w' => ∃ v, en = .returned v ∧ ∃ A7655 : Option Addr, ∃ C7656 : Nat, v = .tuple #[] ∧ St B w' (Ass.box 46 g7648 [.slice A7655 x7654.length C7656, .int .i64 x7657] :: os) (Ro.sl (Kd.int .u8) A7655 C7656 x7654 :: Ro.sl (Kd.int .u8) A7650 C7651 l7649 :: rs)) := by
  unfold confidantref1_Reader_fail.f at H
  refine calls_of_EW (args := [.pointer (some ⟨g7648, 0, none⟩), .int .i64 a7653]) (c := Cd49) 11 Try.func49 (by kernel_rfl) (by kernel_rfl) (by kernel_rfl) ?_
  refine EW.region (id := 0) (ops := Cd49.ops) (by kernel_rfl) ?_
  refine EL.quick 5 [5, 6, 8] [(5, .pointer (some ⟨g7648, 0, none⟩)), (6, .int .i64 a7653), (8, .pointer (some ⟨g7648, 0, none⟩))] (by kernel_rfl) ?_
  refine EL.of (EO.storeBox (os' := Ass.box 46 g7648 [.slice none ([] : List Int).length 0, .int .i64 a7652] :: os) hS 0 rfl 22 0 (.slice none ([] : List Int).length 0) [.slice none ([] : List Int).length 0, .int .i64 a7652] (by kernel_rfl) (by kernel_rfl) (by kernel_rfl) (by kernel_rfl) (by kernel_rfl) (by kernel_rfl) rfl rfl ?_)
  intro w hS
  refine EL.quick 2 [6, 10] [(6, .int .i64 a7653), (10, .pointer (some ⟨g7648, 1, none⟩))] (by kernel_rfl) ?_
  refine EL.of (EO.storeBox (os' := Ass.box 46 g7648 [.slice none ([] : List Int).length 0, .int .i64 a7653] :: os) hS 0 rfl 3 1 (.int .i64 a7653) [.slice none ([] : List Int).length 0, .int .i64 a7653] (by kernel_rfl) (by kernel_rfl) (by kernel_rfl) (by kernel_rfl) (by kernel_rfl) (by kernel_rfl) rfl rfl ?_)
  intro w hS
  refine EL.done (by kernel_rfl) ?_
  have hS := St.nilR hS (Kd.int .u8)
  simp only [Option.some.injEq, Prod.mk.injEq] at H
  obtain ⟨rfl, rfl⟩ := H
  exact EQ.leaveN (.tuple #[]) (by kernel_rfl) ⟨_, rfl, none, 0, rfl, (hS.re [0] [] rfl (sub_cons 0 rfl (sub_tail (sub_self))))⟩

/-! ### (*confidant/confidantref1.Reader).Num: function 29 -/
def confidantref1_Reader_Num.l0 (K : Nat) (l7627 : List Int) (a7630 : Int) (a7631 : Int) (j9308 : Option (List Int × Int × Int)) : Nat → Int → Int → Option (List Int × Int × Int)
  | 0, _, _ => none
  | n + 1, x9413, x9414 => if x9414 < (l7627.length : Int) then (if 0 ≤ x9414 then (lt (fun (x9609 : Bool) => (if x9609 = true then (b2 (confidantref1_Reader_fail.f K l7627 a7630 20) fun (t9614 : List Int) (t9615 : Int) => (some (t9614, t9615, 0))) else (lt (bO .u64 (sL .u64 x9413 7) (IntKind.u64.wrap (bA .u8 (l7627.getD x9414.toNat 0) 127))) fun y9620 => (if (l7627.getD x9414.toNat 0) < 128 then (if y9620 > a7631 then (b2 (confidantref1_Reader_fail.f K l7627 a7630 22) fun (t9629 : List Int) (t9630 : Int) => (some (t9629, t9630, 0))) else (if 0 ≤ (IntKind.i64.wrap (x9414 + 1)) then (if (IntKind.i64.wrap (x9414 + 1)) ≤ (l7627.length : Int) then (lt (l7627.drop ((IntKind.i64.wrap (x9414 + 1)).toNat)) fun l9636 => (some (l9636, a7630, y9620))) else none) else none)) else (confidantref1_Reader_Num.l0 K l7627 a7630 a7631 j9308 n y9620 (IntKind.i64.wrap (x9414 + 1))))))) fun j9610 => (if x9414 = 0 then (if (l7627.getD x9414.toNat 0) = 128 then (j9610 true) else (j9610 (decide (x9413 > 144115188075855871)))) else (j9610 (decide (x9413 > 144115188075855871))))) else none) else (j9308)
def confidantref1_Reader_Num.f (K : Nat) (l7627 : List Int) (a7630 : Int) (a7631 : Int) : Option (List Int × Int × Int) := if a7630 = 0 then (lt (b2 (confidantref1_Reader_fail.f K l7627 a7630 21) fun (t9639 : List Int) (t9640 : Int) => (some (t9639, t9640, 0))) fun j9308 => (confidantref1_Reader_Num.l0 K l7627 a7630 a7631 j9308 K 0 0)) else (some (l7627, a7630, 0))
set_option maxRecDepth 100000 in
theorem confidantref1_Reader_Num.calls {K : Nat} {l7627 : List Int} {a7630 : Int} {a7631 : Int} {g7626 : Nat} {A7628 : Option Addr} {C7629 : Nat} {x8641 : List Int} {x8644 : Int} {x8645 : Int} {B w : World} {os : List Ass} {rs : List Ro} (H : confidantref1_Reader_Num.f K l7627 a7630 a7631 = some (x8641, x8644, x8645)) (hS : St B w (Ass.box 46 g7626 [.slice A7628 l7627.length C7629, .int .i64 a7630] :: os) (Ro.sl (Kd.int .u8) A7628 C7629 l7627 :: rs)) :
    Calls Try.prog 29 [.pointer (some ⟨g7626, 0, none⟩), .int .u64 a7631].toArray w (fun en w' => ∃ v, en = .returned v ∧ ∃ A8642 : Option Addr, ∃ C8643 : Nat, v = .int .u64 x8645 ∧ St B w' (Ass.box 46 g7626 [.slice A8642 x8641.length C8643, .int .i64 x8644] :: os) (Ro.sl (Kd.int .u8) A8642 C8643 x8641 :: Ro.sl (Kd.int .u8) A7628 C7629 l7627 :: rs)) := by
  unfold confidantref1_Reader_Num.f at H
  refine calls_of_EW (args := [.pointer (some ⟨g7626, 0, none⟩), .int .u64 a7631]) (c := Cd29) 67 Try.func29 (by kernel_rfl) (by kernel_rfl) (by kernel_rfl) ?_
  refine EW.seq (x := Cd29.l) (y := Cd29.r) (by kernel_rfl) ?_
  refine EW.region (id := 0) (ops := Cd29.l.ops) (by kernel_rfl) ?_
  refine EL.quick 1 [0, 1] [(0, .pointer (some ⟨g7626, 0, none⟩)), (1, .int .u64 a7631)] (by kernel_rfl) ?_
  refine EL.done (by kernel_rfl) ?_
  refine EQ.code ?_
  refine EW.seq (x := Cd29.r.l) (y := Cd29.r.r) (by kernel_rfl) ?_
  refine EW.seq (x := Cd29.r.l.l) (y := Cd29.r.l.r) (by kernel_rfl) ?_
  refine EW.region (id := 1) (ops := Cd29.r.l.l.ops) (by kernel_rfl) ?_
  refine EL.quick 3 [0, 1, 10] [(0, .pointer (some ⟨g7626, 0, none⟩)), (1, .int .u64 a7631), (10, .pointer (some ⟨g7626, 1, none⟩))] (by kernel_rfl) ?_
  refine EL.of (EO.Y (YO.loadBox hS 0 rfl 3 1 1 (.int .i64 a7630) 11 (by kernel_rfl) (by kernel_rfl) (by kernel_rfl) (by kernel_rfl)) ?_)
  refine EL.quick 1 [0, 1, 12] [(0, .pointer (some ⟨g7626, 0, none⟩)), (1, .int .u64 a7631), (12, .bool (!(decide (a7630 = 0))))] (by kernel_rfl) ?_
  refine EL.done (by kernel_rfl) ?_
  refine EQ.code ?_
  refine EW.condQ (b := !(decide (a7630 = 0))) (o := (.tmp 12)) (x := Cd29.r.l.r.l) (y := Cd29.r.l.r.r) (a7630 = 0) (false) (by kernel_rfl) (by kernel_rfl) ⟨fun h => (by rw [decide_eq_true h] <;> rfl), fun h => (by rw [decide_eq_false h] <;> rfl)⟩ (fun h8647 => ?_) (fun h8647 => ?_)
  · rw [if_pos h8647] at H
    refine EW.skip (by kernel_rfl) ?_
    refine EQ.code ?_
    refine EW.seq (x := Cd29.r.r.l) (y := Cd29.r.r.r) (by kernel_rfl) ?_
    refine EW.region (id := 3) (ops := Cd29.r.r.l.ops) (by kernel_rfl) ?_
    refine EL.quick 1 [0, 1, 5] [(0, .pointer (some ⟨g7626, 0, none⟩)), (1, .int .u64 a7631), (5, .int .u64 0)] (by kernel_rfl) ?_
    refine EL.done (by kernel_rfl) ?_
    refine EQ.code ?_
    obtain ⟨j9308, hj9308, H⟩ := lt_out H
    refine EW.cut (x := Cd29.r.r.r.l) (y := Cd29.r.r.r.r) (fun a w => Sat 67 [(0, .pointer (some ⟨g7626, 0, none⟩))] a ∧ St B w (Ass.box 46 g7626 [.slice A7628 l7627.length C7629, .int .i64 a7630] :: os) (Ro.sl (Kd.int .u8) A7628 C7629 l7627 :: rs) ∧ j9308 = some (x8641, x8644, x8645)) (by kernel_rfl) ?_ (fun a w hI => ?_)
    · refine EW.seq (x := Cd29.r.r.r.l.l) (y := Cd29.r.r.r.l.r) (by kernel_rfl) ?_
      refine EW.region (id := 4) (ops := Cd29.r.r.r.l.l.ops) (by kernel_rfl) ?_
      refine EL.quick 1 [0, 1, 5, 6] [(0, .pointer (some ⟨g7626, 0, none⟩)), (1, .int .u64 a7631), (5, .int .u64 0), (6, .int .i64 0)] (by kernel_rfl) ?_
      refine EL.done (by kernel_rfl) ?_
      refine EQ.code ?_
      refine EW.block (x := Cd29.r.r.r.l.r.l) (id := 0) (by kernel_rfl) ?_
      refine EW.loop (x := Cd29.r.r.r.l.r.l.l) (fun n a w => ∃ x9413 : Int, ∃ x9414 : Int, Sat 67 [(0, .pointer (some ⟨g7626, 0, none⟩)), (1, .int .u64 a7631), (5, .int .u64 x9413), (6, .int .i64 x9414)] a ∧ St B w (Ass.box 46 g7626 [.slice A7628 l7627.length C7629, .int .i64 a7630] :: os) (Ro.sl (Kd.int .u8) A7628 C7629 l7627 :: rs) ∧ confidantref1_Reader_Num.l0 K l7627 a7630 a7631 j9308 n x9413 x9414 = some (x8641, x8644, x8645)) K (by kernel_rfl) ?_ (fun n a w hI => ?_)
      · refine EQ.keep [0, 1, 5, 6] [(0, .pointer (some ⟨g7626, 0, none⟩)), (1, .int .u64 a7631), (5, .int .u64 0), (6, .int .i64 0)] (by kernel_rfl) ?_
        exact fun a ha => ⟨0, 0, ha, (hS.re [0] [] rfl (sub_cons 0 rfl (sub_tail (sub_self)))), H⟩
      · obtain ⟨x9413, x9414, ha, hS, H⟩ := hI
        obtain _ | n := n
        · simp [confidantref1_Reader_Num.l0] at H
        rw [confidantref1_Reader_Num.l0.eq_2] at H
        refine EW.at ?_ a ha
        clear ha a
        refine EW.seq (x := Cd29.r.r.r.l.r.l.l.l) (y := Cd29.r.r.r.l.r.l.l.r) (by kernel_rfl) ?_
        refine EW.seq (x := Cd29.r.r.r.l.r.l.l.l.l) (y := Cd29.r.r.r.l.r.l.l.l.r) (by kernel_rfl) ?_
        refine EW.region (id := 5) (ops := Cd29.r.r.r.l.r.l.l.l.l.ops) (by kernel_rfl) ?_
        refine EL.quick 4 [0, 1, 5, 6, 13, 16] [(0, .pointer (some ⟨g7626, 0, none⟩)), (1, .int .u64 a7631), (5, .int .u64 x9413), (6, .int .i64 x9414), (13, .int .i64 x9414), (16, .pointer (some ⟨g7626, 0, none⟩))] (by kernel_rfl) ?_
        refine EL.of (EO.Y (YO.loadBox hS 0 rfl 22 0 1 (.slice A7628 l7627.length C7629) 17 (by kernel_rfl) (by kernel_rfl) (by kernel_rfl) (by kernel_rfl)) ?_)
        refine EL.quick 2 [0, 1, 5, 6, 19] [(0, .pointer (some ⟨g7626, 0, none⟩)), (1, .int .u64 a7631), (5, .int .u64 x9413), (6, .int .i64 x9414), (19, .bool (decide (x9414 < (l7627.length : Int))))] (by kernel_rfl) ?_
        refine EL.done (by kernel_rfl) ?_
        refine EQ.code ?_
        refine EW.condP (o := (.tmp 19)) (x := Cd29.r.r.r.l.r.l.l.l.r.l) (y := Cd29.r.r.r.l.r.l.l.l.r.r) (x9414 < (l7627.length : Int)) (by kernel_rfl) (by kernel_rfl) (fun h9530 => ?_) (fun h9530 => ?_)
        · rw [if_pos h9530] at H
          refine EW.skip (by kernel_rfl) ?_
          refine EQ.code ?_
          refine EW.seq (x := Cd29.r.r.r.l.r.l.l.r.l) (y := Cd29.r.r.r.l.r.l.l.r.r) (by kernel_rfl) ?_
          refine EW.block (x := Cd29.r.r.r.l.r.l.l.r.l.l) (id := 1) (by kernel_rfl) ?_
          refine EW.seq (x := Cd29.r.r.r.l.r.l.l.r.l.l.l) (y := Cd29.r.r.r.l.r.l.l.r.l.l.r) (by kernel_rfl) ?_
          refine EW.region (id := 7) (ops := Cd29.r.r.r.l.r.l.l.r.l.l.l.ops) (by kernel_rfl) ?_
          refine EL.quick 3 [0, 1, 5, 6, 24] [(0, .pointer (some ⟨g7626, 0, none⟩)), (1, .int .u64 a7631), (5, .int .u64 x9413), (6, .int .i64 x9414), (24, .pointer (some ⟨g7626, 0, none⟩))] (by kernel_rfl) ?_
          refine EL.of (EO.Y (YO.loadBox hS 0 rfl 22 0 1 (.slice A7628 l7627.length C7629) 25 (by kernel_rfl) (by kernel_rfl) (by kernel_rfl) (by kernel_rfl)) ?_)
          refine EL.quick 1 [0, 1, 5, 6, 25, 26] [(0, .pointer (some ⟨g7626, 0, none⟩)), (1, .int .u64 a7631), (5, .int .u64 x9413), (6, .int .i64 x9414), (25, .slice A7628 l7627.length C7629), (26, .int .i64 x9414)] (by kernel_rfl) ?_
          obtain ⟨h9587, H⟩ := ite_in H
          obtain ⟨ad9588, rfl⟩ := St.rd_some hS (Rd.ro 0 rfl) h9587 h9530
          refine EL.of (EO.Y (YO.idx 22 1 ad9588 l7627.length C7629 .i64 x9414 27 (by kernel_rfl) (by kernel_rfl) (by kernel_rfl) (by kernel_rfl) h9587 h9530) ?_)
          refine EL.of (EO.Y (YO.loadEl hS (Kd.int .u8) ad9588 C7629 l7627 (Rd.ro 0 rfl) 0 (encI .u8) encI_of x9414 h9587 h9530 5 1 0 1 rfl (.int .u8 (l7627.getD x9414.toNat 0)) 28 (by kernel_rfl) (by kernel_rfl) (by kernel_rfl) (by kernel_rfl)) ?_)
          refine EL.quick 1 [0, 1, 5, 6, 7] [(0, .pointer (some ⟨g7626, 0, none⟩)), (1, .int .u64 a7631), (5, .int .u64 x9413), (6, .int .i64 x9414), (7, .int .u8 (l7627.getD x9414.toNat 0))] (by kernel_rfl) ?_
          refine EL.done (by kernel_rfl) ?_
          refine EQ.code ?_
          refine EW.seq (x := Cd29.r.r.r.l.r.l.l.r.l.l.r.l) (y := Cd29.r.r.r.l.r.l.l.r.l.l.r.r) (by kernel_rfl) ?_
          obtain ⟨j9610, hj9610, H⟩ := lt_out H
          refine EW.cut (x := Cd29.r.r.r.l.r.l.l.r.l.l.r.l.l) (y := Cd29.r.r.r.l.r.l.l.r.l.l.r.l.r) (fun a w => ∃ x9609 : Bool, Sat 67 [(0, .pointer (some ⟨g7626, 0, none⟩)), (1, .int .u64 a7631), (5, .int .u64 x9413), (6, .int .i64 x9414), (7, .int .u8 (l7627.getD x9414.toNat 0)), (38, .bool (x9609))] a ∧ St B w (Ass.box 46 g7626 [.slice (some ad9588) l7627.length C7629, .int .i64 a7630] :: os) (Ro.sl (Kd.int .u8) (some ad9588) C7629 l7627 :: rs) ∧ j9610 x9609 = some (x8641, x8644, x8645)) (by kernel_rfl) ?_ (fun a w hI => ?_)
          · refine EW.region (id := 8) (ops := Cd29.r.r.r.l.r.l.l.r.l.l.r.l.l.ops) (by kernel_rfl) ?_
            refine EL.quick 3 [0, 1, 5, 6, 7, 31] [(0, .pointer (some ⟨g7626, 0, none⟩)), (1, .int .u64 a7631), (5, .int .u64 x9413), (6, .int .i64 x9414), (7, .int .u8 (l7627.getD x9414.toNat 0)), (31, .bool (decide (x9414 = 0)))] (by kernel_rfl) ?_
            by_cases h9611 : x9414 = 0
            · rw [if_pos h9611] at H
              refine EL.keep [0, 1, 5, 6, 7, 31] [(0, .pointer (some ⟨g7626, 0, none⟩)), (1, .int .u64 a7631), (5, .int .u64 x9413), (6, .int .i64 x9414), (7, .int .u8 (l7627.getD x9414.toNat 0)), (31, .bool (decide (x9414 = 0)))] (by kernel_rfl) ?_
              refine EL.as' [(0, .pointer (some ⟨g7626, 0, none⟩)), (1, .int .u64 a7631), (5, .int .u64 x9413), (6, .int .i64 x9414), (7, .int .u8 (l7627.getD x9414.toNat 0)), (31, .bool (true))] (by simp only [dec_t h9611, Bool.not_true, Bool.not_false]) ?_
              refine EL.quick 4 [0, 1, 5, 6, 7, 32, 33, 35] [(0, .pointer (some ⟨g7626, 0, none⟩)), (1, .int .u64 a7631), (5, .int .u64 x9413), (6, .int .i64 x9414), (7, .int .u8 (l7627.getD x9414.toNat 0)), (32, .int .u8 (l7627.getD x9414.toNat 0)), (33, .bool (decide ((l7627.getD x9414.toNat 0) = 128))), (35, .bool (decide ((l7627.getD x9414.toNat 0) = 128)))] (by kernel_rfl) ?_
              by_cases h9612 : (l7627.getD x9414.toNat 0) = 128
              · rw [if_pos h9612] at H
                refine EL.keep [0, 1, 5, 6, 7, 32, 33, 35] [(0, .pointer (some ⟨g7626, 0, none⟩)), (1, .int .u64 a7631), (5, .int .u64 x9413), (6, .int .i64 x9414), (7, .int .u8 (l7627.getD x9414.toNat 0)), (32, .int .u8 (l7627.getD x9414.toNat 0)), (33, .bool (decide ((l7627.getD x9414.toNat 0) = 128))), (35, .bool (decide ((l7627.getD x9414.toNat 0) = 128)))] (by kernel_rfl) ?_
                refine EL.as' [(0, .pointer (some ⟨g7626, 0, none⟩)), (1, .int .u64 a7631), (5, .int .u64 x9413), (6, .int .i64 x9414), (7, .int .u8 (l7627.getD x9414.toNat 0)), (32, .int .u8 (l7627.getD x9414.toNat 0)), (33, .bool (true)), (35, .bool (true))] (by simp only [dec_t h9612, Bool.not_true, Bool.not_false]) ?_
                refine EL.quick 3 [0, 1, 5, 6, 7, 32, 33, 38] [(0, .pointer (some ⟨g7626, 0, none⟩)), (1, .int .u64 a7631), (5, .int .u64 x9413), (6, .int .i64 x9414), (7, .int .u8 (l7627.getD x9414.toNat 0)), (32, .int .u8 (l7627.getD x9414.toNat 0)), (33, .bool (true)), (38, .bool (true))] (by kernel_rfl) ?_
                refine EL.done (by kernel_rfl) ?_
                refine EQ.to ?_
                refine EQ.keep [0, 1, 5, 6, 7, 38] [(0, .pointer (some ⟨g7626, 0, none⟩)), (1, .int .u64 a7631), (5, .int .u64 x9413), (6, .int .i64 x9414), (7, .int .u8 (l7627.getD x9414.toNat 0)), (38, .bool (true))] (by kernel_rfl) ?_
                exact fun a ha => ⟨true, ha, (hS.re [0] [] rfl (sub_cons 0 rfl (sub_tail (sub_self)))), H⟩
              · rw [if_neg h9612] at H
                refine EL.keep [0, 1, 5, 6, 7, 32, 33, 35] [(0, .pointer (some ⟨g7626, 0, none⟩)), (1, .int .u64 a7631), (5, .int .u64 x9413), (6, .int .i64 x9414), (7, .int .u8 (l7627.getD x9414.toNat 0)), (32, .int .u8 (l7627.getD x9414.toNat 0)), (33, .bool (decide ((l7627.getD x9414.toNat 0) = 128))), (35, .bool (decide ((l7627.getD x9414.toNat 0) = 128)))] (by kernel_rfl) ?_
                refine EL.as' [(0, .pointer (some ⟨g7626, 0, none⟩)), (1, .int .u64 a7631), (5, .int .u64 x9413), (6, .int .i64 x9414), (7, .int .u8 (l7627.getD x9414.toNat 0)), (32, .int .u8 (l7627.getD x9414.toNat 0)), (33, .bool (false)), (35, .bool (false))] (by simp only [dec_f h9612, Bool.not_true, Bool.not_false]) ?_
                refine EL.quick 3 [0, 1, 5, 6, 7, 32, 33, 36, 37, 38] [(0, .pointer (some ⟨g7626, 0, none⟩)), (1, .int .u64 a7631), (5, .int .u64 x9413), (6, .int .i64 x9414), (7, .int .u8 (l7627.getD x9414.toNat 0)), (32, .int .u8 (l7627.getD x9414.toNat 0)), (33, .bool (false)), (36, .int .u64 x9413), (37, .bool (decide (x9413 > 144115188075855871))), (38, .bool (decide (x9413 > 144115188075855871)))] (by kernel_rfl) ?_
                refine EL.done (by kernel_rfl) ?_
                refine EQ.to ?_
                refine EQ.keep [0, 1, 5, 6, 7, 38] [(0, .pointer (some ⟨g7626, 0, none⟩)), (1, .int .u64 a7631), (5, .int .u64 x9413), (6, .int .i64 x9414), (7, .int .u8 (l7627.getD x9414.toNat 0)), (38, .bool (decide (x9413 > 144115188075855871)))] (by kernel_rfl) ?_
                exact fun a ha => ⟨decide (x9413 > 144115188075855871), ha, (hS.re [0] [] rfl (sub_cons 0 rfl (sub_tail (sub_self)))), H⟩
            · rw [if_neg h9611] at H
              refine EL.keep [0, 1, 5, 6, 7, 31] [(0, .pointer (some ⟨g7626, 0, none⟩)), (1, .int .u64 a7631), (5, .int .u64 x9413), (6, .int .i64 x9414), (7, .int .u8 (l7627.getD x9414.toNat 0)), (31, .bool (decide (x9414 = 0)))] (by kernel_rfl) ?_
              refine EL.as' [(0, .pointer (some ⟨g7626, 0, none⟩)), (1, .int .u64 a7631), (5, .int .u64 x9413), (6, .int .i64 x9414), (7, .int .u8 (l7627.getD x9414.toNat 0)), (31, .bool (false))] (by simp only [dec_f h9611, Bool.not_true, Bool.not_false]) ?_
              refine EL.quick 7 [0, 1, 5, 6, 7, 36, 37, 38] [(0, .pointer (some ⟨g7626, 0, none⟩)), (1, .int .u64 a7631), (5, .int .u64 x9413), (6, .int .i64 x9414), (7, .int .u8 (l7627.getD x9414.toNat 0)), (36, .int .u64 x9413), (37, .bool (decide (x9413 > 144115188075855871))), (38, .bool (decide (x9413 > 144115188075855871)))] (by kernel_rfl) ?_
              refine EL.done (by kernel_rfl) ?_
              refine EQ.to ?_
              refine EQ.keep [0, 1, 5, 6, 7, 38] [(0, .pointer (some ⟨g7626, 0, none⟩)), (1, .int .u64 a7631), (5, .int .u64 x9413), (6, .int .i64 x9414), (7, .int .u8 (l7627.getD x9414.toNat 0)), (38, .bool (decide (x9413 > 144115188075855871)))] (by kernel_rfl) ?_
              exact fun a ha => ⟨decide (x9413 > 144115188075855871), ha, (hS.re [0] [] rfl (sub_cons 0 rfl (sub_tail (sub_self)))), H⟩
          · obtain ⟨x9609, ha, hS, H⟩ := hI
            rw [hj9610] at H
            (try dsimp only at H)
            refine EW.at ?_ a ha
            clear ha a
            refine EW.condP' (o := (.tmp 38)) (x := Cd29.r.r.r.l.r.l.l.r.l.l.r.l.r.l) (y := Cd29.r.r.r.l.r.l.l.r.l.l.r.l.r.r) (x9609) (by kernel_rfl) (by kernel_rfl) (fun h9613 => ?_) (fun h9613 => ?_)
            · rw [if_pos h9613] at H
              refine EW.seq (x := Cd29.r.r.r.l.r.l.l.r.l.l.r.l.r.l.l) (y := Cd29.r.r.r.l.r.l.l.r.l.l.r.l.r.l.r) (by kernel_rfl) ?_
              refine EW.region (id := 9) (ops := Cd29.r.r.r.l.r.l.l.r.l.l.r.l.r.l.l.ops) (by kernel_rfl) ?_
              refine EL.quick 1 [39] [(39, .pointer (some ⟨g7626, 0, none⟩))] (by kernel_rfl) ?_
              have hS : St B _ (Ass.box 46 g7626 [.slice (some ad9588) l7627.length C7629, .int .i64 a7630] :: os) (Ro.sl (Kd.int .u8) (some ad9588) C7629 l7627 :: Ro.sl (Kd.int .u8) (some ad9588) C7629 l7627 :: rs) := hS.re [0] [] rfl (sub_cons 0 rfl sub_self)
              obtain ⟨t9614, t9615, hc9618, H⟩ := b2_out H
              refine EL.of (EO.callD 49 [.pointer (some ⟨g7626, 0, none⟩), .int .i64 20] _ 40 (by kernel_rfl) (by kernel_rfl) (by kernel_rfl) (confidantref1_Reader_fail.calls hc9618 hS) ?_)
              rintro v w ⟨A9616, C9617, rfl, hS⟩
              refine EL.done (by kernel_rfl) ?_
              refine EQ.code ?_
              refine EW.seq (x := Cd29.r.r.r.l.r.l.l.r.l.l.r.l.r.l.r.l) (y := Cd29.r.r.r.l.r.l.l.r.l.l.r.l.r.l.r.r) (by kernel_rfl) ?_
              refine EW.region (id := 10) (ops := Cd29.r.r.r.l.r.l.l.r.l.l.r.l.r.l.r.l.ops) (by kernel_rfl) ?_
              refine EL.quick 1 [4] [(4, .int .u64 0)] (by kernel_rfl) ?_
              refine EL.done (by kernel_rfl) ?_
              refine EQ.code ?_
              refine EW.ret (by kernel_rfl) ?_
              refine EQ.ret ?_
              refine EQ.ret ?_
              refine EQ.ret ?_
              refine EQ.ret ?_
              refine EQ.ret ?_
              refine EQ.ret ?_
              simp only [Option.some.injEq, Prod.mk.injEq] at H
              obtain ⟨rfl, rfl, rfl⟩ := H
              exact EQ.leave (.int .u64 0) (by kernel_rfl) ⟨_, rfl, A9616, C9617, rfl, (hS.re [0] [] rfl (sub_cons 0 rfl (sub_tail (sub_tail (sub_self)))))⟩
            · rw [if_neg h9613] at H
              refine EW.skip (by kernel_rfl) ?_
              refine EQ.code ?_
              refine EW.seq (x := Cd29.r.r.r.l.r.l.l.r.l.l.r.r.l) (y := Cd29.r.r.r.l.r.l.l.r.l.l.r.r.r) (by kernel_rfl) ?_
              refine EW.region (id := 11) (ops := Cd29.r.r.r.l.r.l.l.r.l.l.r.r.l.ops) (by kernel_rfl) ?_
              refine EL.quick 7 [0, 1, 5, 6, 7] [(0, .pointer (some ⟨g7626, 0, none⟩)), (1, .int .u64 a7631), (5, .int .u64 (bO .u64 (sL .u64 x9413 7) (IntKind.u64.wrap (bA .u8 (l7627.getD x9414.toNat 0) 127)))), (6, .int .i64 x9414), (7, .int .u8 (l7627.getD x9414.toNat 0))] (by kernel_rfl) ?_
              obtain ⟨y9620, hy9620, H⟩ := lt_out H
              refine EL.keep [0, 1, 5, 6, 7] [(0, .pointer (some ⟨g7626, 0, none⟩)), (1, .int .u64 a7631), (5, .int .u64 (bO .u64 (sL .u64 x9413 7) (IntKind.u64.wrap (bA .u8 (l7627.getD x9414.toNat 0) 127)))), (6, .int .i64 x9414), (7, .int .u8 (l7627.getD x9414.toNat 0))] (by kernel_rfl) ?_
              refine EL.as' [(0, .pointer (some ⟨g7626, 0, none⟩)), (1, .int .u64 a7631), (5, .int .u64 y9620), (6, .int .i64 x9414), (7, .int .u8 (l7627.getD x9414.toNat 0))] (by subst hy9620; rfl) ?_
              refine EL.done (by kernel_rfl) ?_
              refine EQ.code ?_
              refine EW.seq (x := Cd29.r.r.r.l.r.l.l.r.l.l.r.r.r.l) (y := Cd29.r.r.r.l.r.l.l.r.l.l.r.r.r.r) (by kernel_rfl) ?_
              refine EW.region (id := 12) (ops := Cd29.r.r.r.l.r.l.l.r.l.l.r.r.r.l.ops) (by kernel_rfl) ?_
              refine EL.quick 2 [0, 1, 5, 6, 48] [(0, .pointer (some ⟨g7626, 0, none⟩)), (1, .int .u64 a7631), (5, .int .u64 y9620), (6, .int .i64 x9414), (48, .bool (decide ((l7627.getD x9414.toNat 0) < 128)))] (by kernel_rfl) ?_
              refine EL.done (by kernel_rfl) ?_
              refine EQ.code ?_
              refine EW.condP (o := (.tmp 48)) (x := Cd29.r.r.r.l.r.l.l.r.l.l.r.r.r.r.l) (y := Cd29.r.r.r.l.r.l.l.r.l.l.r.r.r.r.r) ((l7627.getD x9414.toNat 0) < 128) (by kernel_rfl) (by kernel_rfl) (fun h9621 => ?_) (fun h9621 => ?_)
              · rw [if_pos h9621] at H
                refine EW.seq (x := Cd29.r.r.r.l.r.l.l.r.l.l.r.r.r.r.l.l) (y := Cd29.r.r.r.l.r.l.l.r.l.l.r.r.r.r.l.r) (by kernel_rfl) ?_
                refine EW.seq (x := Cd29.r.r.r.l.r.l.l.r.l.l.r.r.r.r.l.l.l) (y := Cd29.r.r.r.l.r.l.l.r.l.l.r.r.r.r.l.l.r) (by kernel_rfl) ?_
                refine EW.region (id := 13) (ops := Cd29.r.r.r.l.r.l.l.r.l.l.r.r.r.r.l.l.l.ops) (by kernel_rfl) ?_
                refine EL.quick 3 [0, 5, 6, 51] [(0, .pointer (some ⟨g7626, 0, none⟩)), (5, .int .u64 y9620), (6, .int .i64 x9414), (51, .bool (decide (y9620 > a7631)))] (by kernel_rfl) ?_
                refine EL.done (by kernel_rfl) ?_
                refine EQ.code ?_
                refine EW.condP (o := (.tmp 51)) (x := Cd29.r.r.r.l.r.l.l.r.l.l.r.r.r.r.l.l.r.l) (y := Cd29.r.r.r.l.r.l.l.r.l.l.r.r.r.r.l.l.r.r) (y9620 > a7631) (by kernel_rfl) (by kernel_rfl) (fun h9628 => ?_) (fun h9628 => ?_)
                · rw [if_pos h9628] at H
                  refine EW.seq (x := Cd29.r.r.r.l.r.l.l.r.l.l.r.r.r.r.l.l.r.l.l) (y := Cd29.r.r.r.l.r.l.l.r.l.l.r.r.r.r.l.l.r.l.r) (by kernel_rfl) ?_
                  refine EW.region (id := 14) (ops := Cd29.r.r.r.l.r.l.l.r.l.l.r.r.r.r.l.l.r.l.l.ops) (by kernel_rfl) ?_
                  refine EL.quick 1 [52] [(52, .pointer (some ⟨g7626, 0, none⟩))] (by kernel_rfl) ?_
                  have hS : St B _ (Ass.box 46 g7626 [.slice (some ad9588) l7627.length C7629, .int .i64 a7630] :: os) (Ro.sl (Kd.int .u8) (some ad9588) C7629 l7627 :: Ro.sl (Kd.int .u8) (some ad9588) C7629 l7627 :: rs) := hS.re [0] [] rfl (sub_cons 0 rfl sub_self)
                  obtain ⟨t9629, t9630, hc9633, H⟩ := b2_out H
                  refine EL.of (EO.callD 49 [.pointer (some ⟨g7626, 0, none⟩), .int .i64 22] _ 53 (by kernel_rfl) (by kernel_rfl) (by kernel_rfl) (confidantref1_Reader_fail.calls hc9633 hS) ?_)
                  rintro v w ⟨A9631, C9632, rfl, hS⟩
                  refine EL.done (by kernel_rfl) ?_
                  refine EQ.code ?_
                  refine EW.seq (x := Cd29.r.r.r.l.r.l.l.r.l.l.r.r.r.r.l.l.r.l.r.l) (y := Cd29.r.r.r.l.r.l.l.r.l.l.r.r.r.r.l.l.r.l.r.r) (by kernel_rfl) ?_
                  refine EW.region (id := 15) (ops := Cd29.r.r.r.l.r.l.l.r.l.l.r.r.r.r.l.l.r.l.r.l.ops) (by kernel_rfl) ?_
                  refine EL.quick 1 [4] [(4, .int .u64 0)] (by kernel_rfl) ?_
                  refine EL.done (by kernel_rfl) ?_
                  refine EQ.code ?_
                  refine EW.ret (by kernel_rfl) ?_
                  refine EQ.ret ?_
                  refine EQ.ret ?_
                  refine EQ.ret ?_
                  refine EQ.ret ?_
                  refine EQ.ret ?_
                  refine EQ.ret ?_
                  simp only [Option.some.injEq, Prod.mk.injEq] at H
                  obtain ⟨rfl, rfl, rfl⟩ := H
                  exact EQ.leave (.int .u64 0) (by kernel_rfl) ⟨_, rfl, A9631, C9632, rfl, (hS.re [0] [] rfl (sub_cons 0 rfl (sub_tail (sub_tail (sub_self)))))⟩
                · rw [if_neg h9628] at H
                  refine EW.skip (by kernel_rfl) ?_
                  refine EQ.code ?_
                  refine EW.seq (x := Cd29.r.r.r.l.r.l.l.r.l.l.r.r.r.r.l.r.l) (y := Cd29.r.r.r.l.r.l.l.r.l.l.r.r.r.r.l.r.r) (by kernel_rfl) ?_
                  refine EW.region (id := 16) (ops := Cd29.r.r.r.l.r.l.l.r.l.l.r.r.r.r.l.r.l.ops) (by kernel_rfl) ?_
                  refine EL.quick 4 [5, 6, 54, 57] [(5, .int .u64 y9620), (6, .int .i64 x9414), (54, .pointer (some ⟨g7626, 0, none⟩)), (57, .pointer (some ⟨g7626, 0, none⟩))] (by kernel_rfl) ?_
                  refine EL.of (EO.Y (YO.loadBox hS 0 rfl 22 0 1 (.slice (some ad9588) l7627.length C7629) 58 (by kernel_rfl) (by kernel_rfl) (by kernel_rfl) (by kernel_rfl)) ?_)
                  refine EL.quick 2 [5, 54, 58, 60] [(5, .int .u64 y9620), (54, .pointer (some ⟨g7626, 0, none⟩)), (58, .slice (some ad9588) l7627.length C7629), (60, .int .i64 (IntKind.i64.wrap (x9414 + 1)))] (by kernel_rfl) ?_
                  obtain ⟨h9634, H⟩ := ite_in H
                  obtain ⟨h9635, H⟩ := ite_in H
                  obtain ⟨l9636, hl9636, H⟩ := lt_out H
                  refine EL.of (EO.sliceRo hS (Kd.int .u8) (some ad9588) C7629 l7627 0 rfl (some (.int .i64 (IntKind.i64.wrap (x9414 + 1)))) none none ((IntKind.i64.wrap (x9414 + 1)).toNat) l7627.length C7629 l9636 (by rw [hl9636]; exact (slice_lo _ _)) 22 61 (by kernel_rfl) (by kernel_rfl) (by kernel_rfl) (by kernel_rfl) ((Int.toNat_of_nonneg (by omega)).symm) (rfl) ⟨rfl, fun h => by first | rfl | cases h⟩ (by omega) (by omega) (.inl rfl) ?_)
                  intro A9637 C9638 hS
                  refine EL.quick 2 [5, 61, 63] [(5, .int .u64 y9620), (61, .slice A9637 l9636.length C9638), (63, .pointer (some ⟨g7626, 0, none⟩))] (by kernel_rfl) ?_
                  refine EL.of (EO.storeBox (os' := Ass.box 46 g7626 [.slice A9637 l9636.length C9638, .int .i64 a7630] :: os) hS 0 rfl 22 0 (.slice A9637 l9636.length C9638) [.slice A9637 l9636.length C9638, .int .i64 a7630] (by kernel_rfl) (by kernel_rfl) (by kernel_rfl) (by kernel_rfl) (by kernel_rfl) (by kernel_rfl) rfl rfl ?_)
                  intro w hS
                  refine EL.done (by kernel_rfl) ?_
                  refine EQ.code ?_
                  refine EW.seq (x := Cd29.r.r.r.l.r.l.l.r.l.l.r.r.r.r.l.r.r.l) (y := Cd29.r.r.r.l.r.l.l.r.l.l.r.r.r.r.l.r.r.r) (by kernel_rfl) ?_
                  refine EW.region (id := 17) (ops := Cd29.r.r.r.l.r.l.l.r.l.l.r.r.r.r.l.r.r.l.ops) (by kernel_rfl) ?_
                  refine EL.quick 2 [4] [(4, .int .u64 y9620)] (by kernel_rfl) ?_
                  refine EL.done (by kernel_rfl) ?_
                  refine EQ.code ?_
                  refine EW.ret (by kernel_rfl) ?_
                  refine EQ.ret ?_
                  refine EQ.ret ?_
                  refine EQ.ret ?_
                  refine EQ.ret ?_
                  refine EQ.ret ?_
                  simp only [Option.some.injEq, Prod.mk.injEq] at H
                  obtain ⟨rfl, rfl, rfl⟩ := H
                  exact EQ.leave (.int .u64 y9620) (by kernel_rfl) ⟨_, rfl, A9637, C9638, rfl, (hS.re [0] [] rfl (sub_cons 0 rfl (sub_tail (sub_self))))⟩
              · rw [if_neg h9621] at H
                refine EW.skip (by kernel_rfl) ?_
                refine EQ.pop ?_
                refine EQ.code ?_
                refine EW.region (id := 6) (ops := Cd29.r.r.r.l.r.l.l.r.r.ops) (by kernel_rfl) ?_
                refine EL.quick 3 [0, 1, 5, 6] [(0, .pointer (some ⟨g7626, 0, none⟩)), (1, .int .u64 a7631), (5, .int .u64 y9620), (6, .int .i64 (IntKind.i64.wrap (x9414 + 1)))] (by kernel_rfl) ?_
                refine EL.done (by kernel_rfl) ?_
                refine EQ.to ?_
                refine EQ.keep [0, 1, 5, 6] [(0, .pointer (some ⟨g7626, 0, none⟩)), (1, .int .u64 a7631), (5, .int .u64 y9620), (6, .int .i64 (IntKind.i64.wrap (x9414 + 1)))] (by kernel_rfl) ?_
                exact fun a ha => ⟨n, Nat.lt_succ_self n, y9620, IntKind.i64.wrap (x9414 + 1), ha, (hS.re [0] [] rfl (sub_cons 0 rfl (sub_tail (sub_self)))), H⟩
        · rw [if_neg h9530] at H
          refine EW.exit (id := 0) (by kernel_rfl) ?_
          refine EQ.exitCode ?_
          refine EQ.exitTo ?_
          refine EQ.exitHere ?_
          refine EQ.to ?_
          refine EQ.keep [0] [(0, .pointer (some ⟨g7626, 0, none⟩))] (by kernel_rfl) ?_
          exact fun a ha => ⟨ha, (hS.re [0] [] rfl (sub_cons 0 rfl (sub_tail (sub_self)))), H⟩
    · obtain ⟨ha, hS, H⟩ := hI
      rw [hj9308] at H
      (try dsimp only at H)
      refine EW.at ?_ a ha
      clear ha a
      refine EW.seq (x := Cd29.r.r.r.r.l) (y := Cd29.r.r.r.r.r) (by kernel_rfl) ?_
      refine EW.region (id := 18) (ops := Cd29.r.r.r.r.l.ops) (by kernel_rfl) ?_
      refine EL.quick 1 [65] [(65, .pointer (some ⟨g7626, 0, none⟩))] (by kernel_rfl) ?_
      have hS : St B _ (Ass.box 46 g7626 [.slice A7628 l7627.length C7629, .int .i64 a7630] :: os) (Ro.sl (Kd.int .u8) A7628 C7629 l7627 :: Ro.sl (Kd.int .u8) A7628 C7629 l7627 :: rs) := hS.re [0] [] rfl (sub_cons 0 rfl sub_self)
      obtain ⟨t9639, t9640, hc9643, H⟩ := b2_out H
      refine EL.of (EO.callD 49 [.pointer (some ⟨g7626, 0, none⟩), .int .i64 21] _ 66 (by kernel_rfl) (by kernel_rfl) (by kernel_rfl) (confidantref1_Reader_fail.calls hc9643 hS) ?_)
      rintro v w ⟨A9641, C9642, rfl, hS⟩
      refine EL.done (by kernel_rfl) ?_
      refine EQ.code ?_
      refine EW.seq (x := Cd29.r.r.r.r.r.l) (y := Cd29.r.r.r.r.r.r) (by kernel_rfl) ?_
      refine EW.region (id := 19) (ops := Cd29.r.r.r.r.r.l.ops) (by kernel_rfl) ?_
      refine EL.quick 1 [4] [(4, .int .u64 0)] (by kernel_rfl) ?_
      refine EL.done (by kernel_rfl) ?_
      refine EQ.code ?_
      refine EW.ret (by kernel_rfl) ?_
      simp only [Option.some.injEq, Prod.mk.injEq] at H
      obtain ⟨rfl, rfl, rfl⟩ := H
      exact EQ.leave (.int .u64 0) (by kernel_rfl) ⟨_, rfl, A9641, C9642, rfl, (hS.re [0] [] rfl (sub_cons 0 rfl (sub_tail (sub_tail (sub_self)))))⟩
  · rw [if_neg h8647] at H
    refine EW.seq (x := Cd29.r.l.r.l.l) (y := Cd29.r.l.r.l.r) (by kernel_rfl) ?_
    refine EW.region (id := 2) (ops := Cd29.r.l.r.l.l.ops) (by kernel_rfl) ?_
    refine EL.quick 1 [4] [(4, .int .u64 0)] (by kernel_rfl) ?_
    refine EL.done (by kernel_rfl) ?_
    refine EQ.code ?_
    refine EW.ret (by kernel_rfl) ?_
    refine EQ.ret ?_
    simp only [Option.some.injEq, Prod.mk.injEq] at H
    obtain ⟨rfl, rfl, rfl⟩ := H
    exact EQ.leave (.int .u64 0) (by kernel_rfl) ⟨_, rfl, A7628, C7629, rfl, (hS.re [0] [] rfl (sub_cons 0 rfl (sub_self)))⟩

/-! ### (*confidant/confidantref1.Reader).Lump: function 27 -/
def confidantref1_Reader_Lump.f (K : Nat) (l7620 : List Int) (a7623 : Int) (a7624 : Int) : Option (List Int × Int × List Int) := b3 (confidantref1_Reader_Num.f K l7620 a7623 (IntKind.u64.wrap (mx a7624 0))) fun (t9696 : List Int) (t9697 : Int) (t9698 : Int) => (if t9697 = 0 then (if t9698 > (IntKind.u64.wrap (t9696.length : Int)) then (b2 (confidantref1_Reader_fail.f K t9696 t9697 21) fun (t9711 : List Int) (t9712 : Int) => (some (t9711, t9712, ([] : List Int)))) else (if 0 ≤ t9698 then (if t9698 ≤ (t9696.length : Int) then (lt (t9696.take t9698.toNat) fun l9723 => (lt (t9696.drop t9698.toNat) fun l9726 => (some (l9726, t9697, l9723)))) else none) else none)) else (some (t9696, t9697, ([] : List Int))))
set_option maxRecDepth 100000 in
theorem confidantref1_Reader_Lump.calls {K : Nat} {l7620 : List Int} {a7623 : Int} {a7624 : Int} {g7619 : Nat} {A7621 : Option Addr} {C7622 : Nat} {x9683 : List Int} {x9686 : Int} {x9687 : List Int} {B w : World} {os : List Ass} {rs : List Ro} (H : confidantref1_Reader_Lump.f K l7620 a7623 a7624 = some (x9683, x9686, x9687)) (hS : St B w (Ass.box 46 g7619 [.slice A7621 l7620.length C7622, .int .i64 a7623] :: os) (Ro.sl (Kd.int .u8) A7621 C7622 l7620 :: rs)) :
    Calls Try.prog 27 [.pointer (some ⟨g7619, 0, none⟩), .int .i64 a7624].toArray w (fun en w' => ∃ v, en = .returned v ∧ ∃ A9684 : Option Addr, ∃ C9685 : Nat, ∃ A9688 : Option Addr, ∃ C9689 : Nat, v = .slice A9688 x9687.length C9689 ∧ St B w' (Ass.box 46 g7619 [.slice A9684 x9683.length C9685, .int .i64 x9686] :: os) (Ro.sl (Kd.int .u8) A9684 C9685 x9683 :: Ro.sl (Kd.int .u8) A9688 C9689 x9687 :: Ro.sl (Kd.int .u8) A7621 C7622 l7620 :: rs)) := by
  unfold confidantref1_Reader_Lump.f at H
  refine calls_of_EW (args := [.pointer (some ⟨g7619, 0, none⟩), .int .i64 a7624]) (c := Cd27) 43 Try.func27 (by kernel_rfl) (by kernel_rfl) (by kernel_rfl) ?_
  refine EW.seq (x := Cd27.l) (y := Cd27.r) (by kernel_rfl) ?_
  refine EW.region (id := 0) (ops := Cd27.l.ops) (by kernel_rfl) ?_
  refine EL.quick 1 [0, 1] [(0, .pointer (some ⟨g7619, 0, none⟩)), (1, .int .i64 a7624)] (by kernel_rfl) ?_
  refine EL.done (by kernel_rfl) ?_
  refine EQ.code ?_
  refine EW.seq (x := Cd27.r.l) (y := Cd27.r.r) (by kernel_rfl) ?_
  refine EW.region (id := 1) (ops := Cd27.r.l.ops) (by kernel_rfl) ?_
  refine EL.quick 4 [0, 7, 10] [(0, .pointer (some ⟨g7619, 0, none⟩)), (7, .pointer (some ⟨g7619, 0, none⟩)), (10, .int .u64 (IntKind.u64.wrap (mx a7624 0)))] (by kernel_rfl) ?_
  have hS : St B _ (Ass.box 46 g7619 [.slice A7621 l7620.length C7622, .int .i64 a7623] :: os) (Ro.sl (Kd.int .u8) A7621 C7622 l7620 :: Ro.sl (Kd.int .u8) A7621 C7622 l7620 :: rs) := hS.re [0] [] rfl (sub_cons 0 rfl sub_self)
  obtain ⟨t9696, t9697, t9698, hc9701, H⟩ := b3_out H
  refine EL.of (EO.callD 29 [.pointer (some ⟨g7619, 0, none⟩), .int .u64 (IntKind.u64.wrap (mx a7624 0))] _ 11 (by kernel_rfl) (by kernel_rfl) (by kernel_rfl) (confidantref1_Reader_Num.calls hc9701 hS) ?_)
  rintro v w ⟨A9699, C9700, rfl, hS⟩
  refine EL.quick 1 [0, 5] [(0, .pointer (some ⟨g7619, 0, none⟩)), (5, .int .u64 t9698)] (by kernel_rfl) ?_
  refine EL.done (by kernel_rfl) ?_
  refine EQ.code ?_
  refine EW.seq (x := Cd27.r.r.l) (y := Cd27.r.r.r) (by kernel_rfl) ?_
  refine EW.seq (x := Cd27.r.r.l.l) (y := Cd27.r.r.l.r) (by kernel_rfl) ?_
  refine EW.region (id := 2) (ops := Cd27.r.r.l.l.ops) (by kernel_rfl) ?_
  refine EL.quick 3 [0, 5, 14] [(0, .pointer (some ⟨g7619, 0, none⟩)), (5, .int .u64 t9698), (14, .pointer (some ⟨g7619, 1, none⟩))] (by kernel_rfl) ?_
  refine EL.of (EO.Y (YO.loadBox hS 0 rfl 3 1 1 (.int .i64 t9697) 15 (by kernel_rfl) (by kernel_rfl) (by kernel_rfl) (by kernel_rfl)) ?_)
  refine EL.quick 1 [0, 5, 16] [(0, .pointer (some ⟨g7619, 0, none⟩)), (5, .int .u64 t9698), (16, .bool (!(decide (t9697 = 0))))] (by kernel_rfl) ?_
  refine EL.done (by kernel_rfl) ?_
  refine EQ.code ?_
  refine EW.condQ (b := !(decide (t9697 = 0))) (o := (.tmp 16)) (x := Cd27.r.r.l.r.l) (y := Cd27.r.r.l.r.r) (t9697 = 0) (false) (by kernel_rfl) (by kernel_rfl) ⟨fun h => (by rw [decide_eq_true h] <;> rfl), fun h => (by rw [decide_eq_false h] <;> rfl)⟩ (fun h9703 => ?_) (fun h9703 => ?_)
  · rw [if_pos h9703] at H
    refine EW.skip (by kernel_rfl) ?_
    refine EQ.code ?_
    refine EW.seq (x := Cd27.r.r.r.l) (y := Cd27.r.r.r.r) (by kernel_rfl) ?_
    refine EW.seq (x := Cd27.r.r.r.l.l) (y := Cd27.r.r.r.l.r) (by kernel_rfl) ?_
    refine EW.region (id := 4) (ops := Cd27.r.r.r.l.l.ops) (by kernel_rfl) ?_
    refine EL.quick 4 [0, 5, 17, 20] [(0, .pointer (some ⟨g7619, 0, none⟩)), (5, .int .u64 t9698), (17, .int .u64 t9698), (20, .pointer (some ⟨g7619, 0, none⟩))] (by kernel_rfl) ?_
    refine EL.of (EO.Y (YO.loadBox hS 0 rfl 22 0 1 (.slice A9699 t9696.length C9700) 21 (by kernel_rfl) (by kernel_rfl) (by kernel_rfl) (by kernel_rfl)) ?_)
    refine EL.quick 3 [0, 5, 24] [(0, .pointer (some ⟨g7619, 0, none⟩)), (5, .int .u64 t9698), (24, .bool (decide (t9698 > (IntKind.u64.wrap (t9696.length : Int)))))] (by kernel_rfl) ?_
    refine EL.done (by kernel_rfl) ?_
    refine EQ.code ?_
    refine EW.condP (o := (.tmp 24)) (x := Cd27.r.r.r.l.r.l) (y := Cd27.r.r.r.l.r.r) (t9698 > (IntKind.u64.wrap (t9696.length : Int))) (by kernel_rfl) (by kernel_rfl) (fun h9710 => ?_) (fun h9710 => ?_)
    · rw [if_pos h9710] at H
      refine EW.seq (x := Cd27.r.r.r.l.r.l.l) (y := Cd27.r.r.r.l.r.l.r) (by kernel_rfl) ?_
      refine EW.region (id := 5) (ops := Cd27.r.r.r.l.r.l.l.ops) (by kernel_rfl) ?_
      refine EL.quick 1 [25] [(25, .pointer (some ⟨g7619, 0, none⟩))] (by kernel_rfl) ?_
      have hS : St B _ (Ass.box 46 g7619 [.slice A9699 t9696.length C9700, .int .i64 t9697] :: os) (Ro.sl (Kd.int .u8) A9699 C9700 t9696 :: Ro.sl (Kd.int .u8) A9699 C9700 t9696 :: Ro.sl (Kd.int .u8) A7621 C7622 l7620 :: Ro.sl (Kd.int .u8) A7621 C7622 l7620 :: rs) := hS.re [0] [] rfl (sub_cons 0 rfl sub_self)
      obtain ⟨t9711, t9712, hc9715, H⟩ := b2_out H
      refine EL.of (EO.callD 49 [.pointer (some ⟨g7619, 0, none⟩), .int .i64 21] _ 26 (by kernel_rfl) (by kernel_rfl) (by kernel_rfl) (confidantref1_Reader_fail.calls hc9715 hS) ?_)
      rintro v w ⟨A9713, C9714, rfl, hS⟩
      refine EL.done (by kernel_rfl) ?_
      refine EQ.code ?_
      refine EW.seq (x := Cd27.r.r.r.l.r.l.r.l) (y := Cd27.r.r.r.l.r.l.r.r) (by kernel_rfl) ?_
      refine EW.region (id := 6) (ops := Cd27.r.r.r.l.r.l.r.l.ops) (by kernel_rfl) ?_
      refine EL.quick 1 [4] [(4, .slice none ([] : List Int).length 0)] (by kernel_rfl) ?_
      refine EL.done (by kernel_rfl) ?_
      refine EQ.code ?_
      refine EW.ret (by kernel_rfl) ?_
      refine EQ.ret ?_
      have hS := St.nilR hS (Kd.int .u8)
      simp only [Option.some.injEq, Prod.mk.injEq] at H
      obtain ⟨rfl, rfl, rfl⟩ := H
      exact EQ.leave (.slice none ([] : List Int).length 0) (by kernel_rfl) ⟨_, rfl, A9713, C9714, none, 0, rfl, (hS.re [0] [] rfl (sub_cons 1 rfl (sub_cons 0 rfl (sub_tail (sub_tail (sub_tail (sub_tail (sub_tail (sub_self)))))))))⟩
    · rw [if_neg h9710] at H
      refine EW.skip (by kernel_rfl) ?_
      refine EQ.code ?_
      refine EW.seq (x := Cd27.r.r.r.r.l) (y := Cd27.r.r.r.r.r) (by kernel_rfl) ?_
      refine EW.region (id := 7) (ops := Cd27.r.r.r.r.l.ops) (by kernel_rfl) ?_
      refine EL.quick 3 [0, 5, 29] [(0, .pointer (some ⟨g7619, 0, none⟩)), (5, .int .u64 t9698), (29, .pointer (some ⟨g7619, 0, none⟩))] (by kernel_rfl) ?_
      refine EL.of (EO.Y (YO.loadBox hS 0 rfl 22 0 1 (.slice A9699 t9696.length C9700) 30 (by kernel_rfl) (by kernel_rfl) (by kernel_rfl) (by kernel_rfl)) ?_)
      refine EL.quick 1 [0, 5, 30, 31] [(0, .pointer (some ⟨g7619, 0, none⟩)), (5, .int .u64 t9698), (30, .slice A9699 t9696.length C9700), (31, .int .u64 t9698)] (by kernel_rfl) ?_
      obtain ⟨h9721, H⟩ := ite_in H
      obtain ⟨h9722, H⟩ := ite_in H
      obtain ⟨l9723, hl9723, H⟩ := lt_out H
      refine EL.of (EO.sliceRo hS (Kd.int .u8) A9699 C9700 t9696 0 rfl none (some (.int .u64 t9698)) none 0 t9698.toNat C9700 l9723 (by rw [hl9723]; exact (slice_hi _ _)) 22 32 (by kernel_rfl) (by kernel_rfl) (by kernel_rfl) (by kernel_rfl) (rfl) ((Int.toNat_of_nonneg (by omega)).symm) ⟨rfl, fun h => by first | rfl | cases h⟩ (by omega) (by omega) (.inl rfl) ?_)
      intro A9724 C9725 hS
      refine EL.quick 1 [0, 5, 6] [(0, .pointer (some ⟨g7619, 0, none⟩)), (5, .int .u64 t9698), (6, .slice A9724 l9723.length C9725)] (by kernel_rfl) ?_
      refine EL.done (by kernel_rfl) ?_
      refine EQ.code ?_
      refine EW.seq (x := Cd27.r.r.r.r.r.l) (y := Cd27.r.r.r.r.r.r) (by kernel_rfl) ?_
      refine EW.region (id := 8) (ops := Cd27.r.r.r.r.r.l.ops) (by kernel_rfl) ?_
      refine EL.quick 4 [5, 6, 33, 36] [(5, .int .u64 t9698), (6, .slice A9724 l9723.length C9725), (33, .pointer (some ⟨g7619, 0, none⟩)), (36, .pointer (some ⟨g7619, 0, none⟩))] (by kernel_rfl) ?_
      refine EL.of (EO.Y (YO.loadBox hS 0 rfl 22 0 1 (.slice A9699 t9696.length C9700) 37 (by kernel_rfl) (by kernel_rfl) (by kernel_rfl) (by kernel_rfl)) ?_)
      refine EL.quick 1 [6, 33, 37, 38] [(6, .slice A9724 l9723.length C9725), (33, .pointer (some ⟨g7619, 0, none⟩)), (37, .slice A9699 t9696.length C9700), (38, .int .u64 t9698)] (by kernel_rfl) ?_
      obtain ⟨l9726, hl9726, H⟩ := lt_out H
      refine EL.of (EO.sliceRo hS (Kd.int .u8) A9699 C9700 t9696 1 rfl (some (.int .u64 t9698)) none none t9698.toNat t9696.length C9700 l9726 (by rw [hl9726]; exact (slice_lo _ _)) 22 39 (by kernel_rfl) (by kernel_rfl) (by kernel_rfl) (by kernel_rfl) ((Int.toNat_of_nonneg (by omega)).symm) (rfl) ⟨rfl, fun h => by first | rfl | cases h⟩ (by omega) (by omega) (.inl rfl) ?_)
      intro A9727 C9728 hS
      refine EL.quick 2 [6, 39, 41] [(6, .slice A9724 l9723.length C9725), (39, .slice A9727 l9726.length C9728), (41, .pointer (some ⟨g7619, 0, none⟩))] (by kernel_rfl) ?_
      refine EL.of (EO.storeBox (os' := Ass.box 46 g7619 [.slice A9727 l9726.length C9728, .int .i64 t9697] :: os) hS 0 rfl 22 0 (.slice A9727 l9726.length C9728) [.slice A9727 l9726.length C9728, .int .i64 t9697] (by kernel_rfl) (by kernel_rfl) (by kernel_rfl) (by kernel_rfl) (by kernel_rfl) (by kernel_rfl) rfl rfl ?_)
      intro w hS
      refine EL.done (by kernel_rfl) ?_
      refine EQ.code ?_
      refine EW.seq (x := Cd27.r.r.r.r.r.r.l) (y := Cd27.r.r.r.r.r.r.r) (by kernel_rfl) ?_
      refine EW.region (id := 9) (ops := Cd27.r.r.r.r.r.r.l.ops) (by kernel_rfl) ?_
      refine EL.quick 2 [4] [(4, .slice A9724 l9723.length C9725)] (by kernel_rfl) ?_
      refine EL.done (by kernel_rfl) ?_
      refine EQ.code ?_
      refine EW.ret (by kernel_rfl) ?_
      simp only [Option.some.injEq, Prod.mk.injEq] at H
      obtain ⟨rfl, rfl, rfl⟩ := H
      exact EQ.leave (.slice A9724 l9723.length C9725) (by kernel_rfl) ⟨_, rfl, A9727, C9728, A9724, C9725, rfl, (hS.re [0] [] rfl (sub_cons 0 rfl (sub_cons 1 rfl (sub_tail (sub_tail (sub_tail (sub_tail (sub_self))))))))⟩
  · rw [if_neg h9703] at H
    refine EW.seq (x := Cd27.r.r.l.r.l.l) (y := Cd27.r.r.l.r.l.r) (by kernel_rfl) ?_
    refine EW.region (id := 3) (ops := Cd27.r.r.l.r.l.l.ops) (by kernel_rfl) ?_
    refine EL.quick 1 [4] [(4, .slice none ([] : List Int).length 0)] (by kernel_rfl) ?_
    refine EL.done (by kernel_rfl) ?_
    refine EQ.code ?_
    refine EW.ret (by kernel_rfl) ?_
    refine EQ.ret ?_
    have hS := St.nilR hS (Kd.int .u8)
    simp only [Option.some.injEq, Prod.mk.injEq] at H
    obtain ⟨rfl, rfl, rfl⟩ := H
    exact EQ.leave (.slice none ([] : List Int).length 0) (by kernel_rfl) ⟨_, rfl, A9699, C9700, none, 0, rfl, (hS.re [0] [] rfl (sub_cons 1 rfl (sub_cons 0 rfl (sub_tail (sub_tail (sub_tail (sub_self)))))))⟩

end Go.Proofs.Ytifnjijlbcacoaa.G
