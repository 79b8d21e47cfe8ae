/- WHAT IS KNOWN OF PACKAGE VARIABLES (by their blocks): the words and the kinds of conditions, the powers of ten are what they are; internal/bytealg.MaxLen holds some int. -/
import Derived.Orders
import Derived.Lib.LaidTab
import Derived.Lib.ItoaNum
set_option linter.unusedSimpArgs false
set_option linter.unusedVariables false
namespace Go.Proofs.YtdcgnfkkklbckaaGreatDoor
namespace Pv
def someInt (o:Obj):Prop:=∃cs T fz m,o= .cells cs T fz∧cs[0]? =some (.int .i64 m)
def isPow10 (o:Obj):Prop:=∃T fz,o= .cells (Lib.pow10Tab.map fun z=>Value.int .u64 z).toArray T fz
def kindWords:List (List UInt8):= [[], [108,101,97,115,116], [109,111,115,116], [117,112], [100,111,119,110]]
def isWords (o:Obj):Prop:=∃T fz,o= .cells (kindWords.map fun s=>Value.string ⟨s.toArray⟩).toArray T fz
def kindFlags:List Bool:= [false,false,true,false,false,false,false,true,true,true]
def isKinds (o:Obj):Prop:=∃T fz,o= .cells (kindFlags.map Value.bool).toArray T fz
def glob:Nat→Option (Obj→Prop)
 | 0=>some isWords
 | 2=>some isKinds
 | 3=>some isPow10
 | 4=>some someInt
 | _=>none
def givers:List Nat:= [195,251,297,210,273,163,208,271,141]
def writers:List Nat:= [195,251,297,210,273,163,208,271]
def readers:List Nat:= [180,225,276]
def globV:Nat→Option (List Value)
 | 0=>some (kindWords.map fun s=>Value.string ⟨s.toArray⟩)
 | 2=>some (kindFlags.map Value.bool)
 | _=>none
theorem globV_ok {g:Nat} {vs:List Value} (h:globV g=some vs):∃p,glob g=some p∧∀o,p o→∃T fz,o= .cells vs.toArray T fz:=by
 match g,h with
 | 0,h=>injection h with h;subst h;exact ⟨isWords,rfl,fun o ho=>ho⟩
 | 1,h=>cases h
 | 2,h=>injection h with h;subst h;exact ⟨isKinds,rfl,fun o ho=>ho⟩
 | g+3,h=>cases h
end Pv
end Go.Proofs.YtdcgnfkkklbckaaGreatDoor
