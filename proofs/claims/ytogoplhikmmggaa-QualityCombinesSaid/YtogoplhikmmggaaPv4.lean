/- WHAT HAS TO BE SHOWN OF COMPACT CODE: by evaluation; loops are left standing. Definitions and their equations. -/
import Derived.Test.YtogoplhikmmggaaPv3
set_option linter.unusedSimpArgs false
set_option linter.unusedVariables false
namespace Go.Proofs.Ytogoplhikmmggaa
namespace Pv

/-- How code is left. -/
inductive Lv where
  | nrm
  | ex (id : Nat)
  | ret

/-- The pairs of a region that draws do not disturb one another. -/
def disjointL (a b : List Nat) : Bool := a.all fun x => !b.contains x
def killOk (x y : LogE) : Bool := match x.ks, y.ks with
  | [], [] => true
  | kx, ky => disjointL kx y.ms && (disjointL ky x.ms && (kx.isEmpty || y.nj))
def apartOk (log : Nat → Option LogE) : List (Nat × Nat × Nat) → Bool
  | [] => true
  | (a, b, d) :: r => (match log a, log b with
    | some x, some y => (x.pu || y.pu || (!x.rm && !y.rm && (disjointL x.ws y.ids && disjointL y.ws x.ids) && y.ids.all (fun i => !(i / 16 == d)))) && killOk x y
    | _, _ => false) && apartOk log r

def PS.reset (s : PS) : PS := ⟨s.n, s.fr, s.st, True, fun _ => none⟩

/-- What has to be shown. 'LS': 'a loop is run from here': what that means is said in another text. -/
def vc (S : FuncId → List PV → List SE → CallRes → Prop) (LS : C → (Lv → PS → Prop) → PS → Prop) : C → (Lv → PS → Prop) → PS → Prop
  | .skip, Q, s => Q .nrm s
  | .reg ins, Q, s => evK S false 0 ins s (fun s' => Q .nrm s')
  | .drw ins ps, Q, s => match s with
    | ⟨n, fr, st, ok, _⟩ => evK S true 0 ins ⟨n, fr, st, ok, fun _ => none⟩ (fun s' => match s' with
      | ⟨n', fr', st', ok', log'⟩ => apartOk log' ps = true ∧ Q .nrm ⟨n', fr', st', ok', fun _ => none⟩)
  | .seq a b, Q, s => vc S LS a (fun e s' => match e with
    | .nrm => vc S LS b Q s'
    | .ex i => Q (.ex i) s'
    | .ret => Q .ret s') s
  | .cond c x y, Q, s => match s with
    | ⟨n, fr, st, ok, log⟩ => match A.val fr c with
      | some (.bool b) => ok ∧ (b = true → vc S LS x Q ⟨n, fr, st, True, log⟩) ∧ (b = false → vc S LS y Q ⟨n, fr, st, True, log⟩)
      | _ => False
  | .block id b, Q, s => vc S LS b (fun e s' => match e with
    | .nrm => Q .nrm s'
    | .ex i => match Nat.beq i id with
      | true => Q .nrm s'
      | false => Q (.ex i) s'
    | .ret => Q .ret s') s
  | .loop b, Q, s => match s with
    | ⟨n, fr, st, ok, log⟩ => ok ∧ LS (.loop b) Q ⟨n, fr, st, True, log⟩
  | .exit id, Q, s => Q (.ex id) s
  | .scope b, Q, s => vc S LS b Q s
  | .ret, Q, s => Q .ret s
  | .cut b, Q, s => match s with
    | ⟨n, fr, st, ok, log⟩ => ok ∧ LS b Q ⟨n, fr, st, True, log⟩

/-- Code without the places where the proof takes stock. -/
def C.er : C → C
  | .seq a b => .seq a.er b.er
  | .cond c x y => .cond c x.er y.er
  | .block id b => .block id b.er
  | .loop b => .loop b.er
  | .scope b => .scope b.er
  | .cut b => b.er
  | c => c

end Pv
end Go.Proofs.Ytogoplhikmmggaa
