import Derived.Test.YtocdpimpkifdmaaDoorShelf
import Derived.Test.YtocdpimpkifdmaaDoorFwStr
/- The library's contracts as the walks use them. -/
set_option linter.unusedVariables false
set_option linter.unusedSimpArgs false
namespace Go.Proofs.YtocdpimpkifdmaaDoor.G
open Go Go.Fw Go.RowKit Go.Proofs

/-- the tables that the library reads -/
def Glob (w : World) : Prop := Lib.TabIs Tryd.prog w "internal/strconv.uint64pow10" .u64 Lib.pow10Tab ∧ Lib.TabIs Tryd.prog w "strings.asciiSpace" .u8 Lib.asciiSpaceTab

theorem Glob.of {B w : World} {os : List Ass} {rs : List Ro} (hS : St B w os rs) (gB : Glob B) : Glob w := ⟨hS.tab gB.1, hS.tab gB.2⟩

theorem Door.strings_Fields {B w : World} {os : List Ass} {rs : List Ro} {s : ByteArray} {t : List ByteArray} (hS : St B w os rs) (gB : Glob B) (H : fieldsOk s = true) (ht : t = fieldsL s) :
    Calls Tryd.prog 78 [.string s].toArray w (fun en w' => ∃ v, en = .returned v ∧ ∃ A : Option Addr, ∃ C : Nat, v = .slice A t.length C ∧ St B w' (Ass.own 9 Kd.str A C t :: os) rs) :=
  fields_end 9 hS H ht (Tryd.strings_Fields s w (fieldsOk_of H).1 (fieldsOk_of H).2.1 (hS.tab gB.2))

theorem Door.strconv_Itoa {B w : World} {os : List Ass} {rs : List Ro} {n : Int} {t : ByteArray} (hS : St B w os rs) (gB : Glob B) (H : i64ok n = true) (ht : t = itoaL n) :
    Calls Tryd.prog 52 [.int .i64 n].toArray w (fun en w' => ∃ v, en = .returned v ∧ v = .string t ∧ St B w' os rs) := by
  subst ht
  exact str_end hS (fun w' ⟨k, os, h⟩ => h ▸ below_grow w k os) (Tryd.strconv_Itoa n (i64ok_of H).1 (i64ok_of H).2 w (hS.tab gB.1))

theorem Door.strings_Join {B w : World} {os : List Ass} {rs : List Ro} {A : Option Addr} {C : Nat} {xs : List ByteArray} {sep t : ByteArray} (hS : St B w os rs) (hr : Rd os rs Kd.str A C xs) (H : joinOk xs sep = true) (ht : t = joinL xs sep) :
    Calls Tryd.prog 54 [.slice A xs.length C, .string sep].toArray w (fun en w' => ∃ v, en = .returned v ∧ v = .string t ∧ St B w' os rs) :=
  join_end hS hr H ht (fun a c => Tryd.strings_Join_none a c sep w) (fun bk o c h1 h2 h3 h4 h5 => Tryd.strings_Join bk o c xs sep w h1 h2 h3 h4 h5)
end Go.Proofs.YtocdpimpkifdmaaDoor.G
