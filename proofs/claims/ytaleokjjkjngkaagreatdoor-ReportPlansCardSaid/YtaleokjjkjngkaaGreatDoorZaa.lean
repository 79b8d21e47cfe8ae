/- WHAT IS KNOWN OF PACKAGE VARIABLES (by their blocks): internal/bytealg.MaxLen holds some int, the powers of ten are what they are. -/
import Derived.Orders
import Derived.Lib.LaidTab
import Derived.Lib.ItoaNum
set_option linter.unusedSimpArgs false
set_option linter.unusedVariables false
namespace Go.Proofs.YtaleokjjkjngkaaGreatDoor
namespace Pv
def someInt (o:Obj):Prop:=∃cs T fz m,o= .cells cs T fz∧cs[0]? =some (.int .i64 m)
def isPow10 (o:Obj):Prop:=∃T fz,o= .cells (Lib.pow10Tab.map fun z=>Value.int .u64 z).toArray T fz
def glob:Nat→Option (Obj→Prop)
 | 0=>some someInt
 | 1=>some isPow10
 | _=>none
def givers:List Nat:= []
def writers:List Nat:= []
def readers:List Nat:= []
def globV:Nat→Option (List Value):=fun _=>none
theorem globV_ok {g:Nat} {vs:List Value} (h:globV g=some vs):∃p,glob g=some p∧∀o,p o→∃T fz,o= .cells vs.toArray T fz:=by cases h
end Pv
end Go.Proofs.YtaleokjjkjngkaaGreatDoor
