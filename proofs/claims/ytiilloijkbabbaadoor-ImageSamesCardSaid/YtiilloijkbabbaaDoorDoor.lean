import Derived.Test.YtiilloijkbabbaaDoorShelf
import Derived.Test.YtiilloijkbabbaaDoorFwStr
import Derived.Test.YtiilloijkbabbaaDoorFwBld
/- The library's contracts as the walks use them. -/
set_option linter.unusedVariables false
set_option linter.unusedSimpArgs false
namespace Go.Proofs.YtiilloijkbabbaaDoor.G
open Go Go.Fw Go.RowKit Go.Proofs

/-- the variables that the library reads -/
def Glob (w : World) : Prop := Lib.TabIs Tryd.prog w "internal/strconv.uint64pow10" .u64 Lib.pow10Tab ∧ Lib.TabIs Tryd.prog w "strings.asciiSpace" .u8 Lib.asciiSpaceTab ∧ IntCell w 0 ∧ ErrCell w 3 ∧ ErrCell w 2

theorem Glob.of {B w : World} {os : List Ass} {rs : List Ro} (hS : St B w os rs) (gB : Glob B) : Glob w := ⟨hS.tab gB.1, hS.tab gB.2.1, hS.intCell gB.2.2.1, hS.errCell gB.2.2.2.1, hS.errCell gB.2.2.2.2⟩

theorem Door.strings_Cut {B w : World} {os : List Ass} {rs : List Ro} {s sep : ByteArray} (hS : St B w os rs) (gB : Glob B) (H : s.size < 4294967281) :
    Calls Tryd.prog 35 [.string s, .string sep].toArray w (fun en w' => ∃ v, en = .returned v ∧ v = .tuple #[.string (cutA s sep), .string (cutB s sep), .bool (cutC s sep)] ∧ St B w' os rs) := by
  obtain ⟨m, hm⟩ := (hS.intCell gB.2.2.1)
  exact cut_end hS (Tryd.strings_Cut s sep m w H hm)

theorem Door.strings_Split {B w : World} {os : List Ass} {rs : List Ro} {s sep : ByteArray} {t : List ByteArray} (hS : St B w os rs) (gB : Glob B) (H : s.size < 4294967281) (h1 : 1 ≤ sep.size) (ht : t = splitL s sep) :
    Calls Tryd.prog 17 [.string s, .string sep].toArray w (fun en w' => ∃ v, en = .returned v ∧ ∃ A : Option Addr, ∃ C : Nat, v = .slice A t.length C ∧ St B w' (Ass.own 9 Kd.str A C t :: os) rs) := by
  obtain ⟨m, hm⟩ := (hS.intCell gB.2.2.1)
  exact split_end 9 hS H h1 ht (Tryd.strings_Split s sep m w H hm h1)

theorem Door.strconv_ParseInt {B w : World} {os : List Ass} {rs : List Ro} {s : ByteArray} (hS : St B w os rs) (gB : Glob B) (H : s.size ≤ 281474976710656) :
    Calls Tryd.prog 37 [.string s, .int .i64 10, .int .i64 32].toArray w (fun en w' => ∃ v, en = .returned v ∧ ∃ er : Value, v = .tuple #[.int .i64 (parseN 32 s), er] ∧ St B w' os rs) :=
  parse_end hS (hS.errCell gB.2.2.2.2) (hS.errCell gB.2.2.2.1) (fun v h => Tryd.strconv_ParseInt_10_at32_ok s (by omega) v h w) (fun h ev h1 h2 => (Tryd.strconv_ParseInt_10_at32_syntax s H h ev w h1 h2).mono fun e w' ⟨N, q1, _, _, q4⟩ => ⟨N, q1, q4⟩) (fun h ev h1 h2 => (Tryd.strconv_ParseInt_10_at32_range s H h ev w h1 h2).mono fun e w' ⟨N, q1, _, _, q4⟩ => ⟨N, q1, q4⟩)

theorem Door.strings_Fields {B w : World} {os : List Ass} {rs : List Ro} {s : ByteArray} {t : List ByteArray} (hS : St B w os rs) (gB : Glob B) (H : fieldsOk s = true) (ht : t = fieldsL s) :
    Calls Tryd.prog 58 [.string s].toArray w (fun en w' => ∃ v, en = .returned v ∧ ∃ A : Option Addr, ∃ C : Nat, v = .slice A t.length C ∧ St B w' (Ass.own 9 Kd.str A C t :: os) rs) :=
  fields_end 9 hS H ht (Tryd.strings_Fields s w (fieldsOk_of H).1 (fieldsOk_of H).2.1 (hS.tab gB.2.1))

theorem Door.strconv_Itoa {B w : World} {os : List Ass} {rs : List Ro} {n : Int} {t : ByteArray} (hS : St B w os rs) (gB : Glob B) (H : i64ok n = true) (ht : t = itoaL n) :
    Calls Tryd.prog 40 [.int .i64 n].toArray w (fun en w' => ∃ v, en = .returned v ∧ v = .string t ∧ St B w' os rs) := by
  subst ht
  exact str_end hS (fun w' ⟨k, os, h⟩ => h ▸ below_grow w k os) (Tryd.strconv_Itoa n (i64ok_of H).1 (i64ok_of H).2 w (hS.tab gB.1))

theorem Door.Builder_WriteString {B w : World} {os os0 : List Ass} {rs rs1 : List Ro} {b : Nat} {l s t : ByteArray} (h0 : St B B os0 rs1) (hS : St B w (Ass.bld 58 5 b l :: os) rs) (hn : NoRow 5 os) (ht : t = l ++ s) (H : l.size + s.size ≤ 140737488355328) :
    Calls Tryd.prog 24 [.pointer (some ⟨b, 0, none⟩), .string s].toArray w (fun en w' => ∃ v, en = .returned v ∧ v = .tuple #[.int .i64 s.size, .nilIface] ∧ St B w' (Ass.bld 58 5 b t :: os) rs1) :=
  bld_write h0 hS hn ht (fun h hb => Tryd.Builder_WriteString_k B.heap.size b _ s w h (by rw [Lib.byteCells_length, Array.length_toList]; exact H) hb)

theorem Door.Builder_String {B w : World} {os os0 : List Ass} {rs rs1 : List Ro} {b : Nat} {l : ByteArray} (h0 : St B B os0 rs1) (hS : St B w (Ass.bld 58 5 b l :: os) rs) (hn : NoRow 5 os) :
    Calls Tryd.prog 26 [.pointer (some ⟨b, 0, none⟩)].toArray w (fun en w' => ∃ v, en = .returned v ∧ v = .string l ∧ St B w' os rs1) :=
  bld_string h0 hS hn (fun h hb => Tryd.Builder_String_any_k B.heap.size b _ w h hb)
end Go.Proofs.YtiilloijkbabbaaDoor.G
