import Derived.Test.YtipaaapbapijhaaDoorShelf
import Derived.Test.YtipaaapbapijhaaDoorFwStr
/- The library's contracts as the walks use them. -/
set_option linter.unusedVariables false
set_option linter.unusedSimpArgs false
namespace Go.Proofs.YtipaaapbapijhaaDoor.G
open Go Go.Fw Go.RowKit Go.Proofs

/-- the tables that the library reads -/
def Glob (w : World) : Prop := Lib.TabIs Tryd.prog w "strings.asciiSpace" .u8 Lib.asciiSpaceTab
theorem Glob.of {B w : World} {os : List Ass} {rs : List Ro} (hS : St B w os rs) (gB : Glob B) : Glob w := hS.tab gB

theorem Door.strings_Fields {B w : World} {os : List Ass} {rs : List Ro} {s : ByteArray} {t : List ByteArray} (hS : St B w os rs) (gB : Glob B) (H : fieldsOk s = true) (ht : t = fieldsL s) :
    Calls Tryd.prog 25 [.string s].toArray w (fun en w' => ∃ v, en = .returned v ∧ ∃ A : Option Addr, ∃ C : Nat, v = .slice A t.length C ∧ St B w' (Ass.own 9 Kd.str A C t :: os) rs) :=
  fields_end 9 hS H ht (Tryd.strings_Fields s w (fieldsOk_of H).1 (fieldsOk_of H).2.1 (hS.tab gB))
end Go.Proofs.YtipaaapbapijhaaDoor.G
