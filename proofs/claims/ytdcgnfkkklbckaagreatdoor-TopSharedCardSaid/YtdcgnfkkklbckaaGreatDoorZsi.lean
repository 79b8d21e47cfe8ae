/- LAW TopShared: the row and its card: the law returns true for every input, and the input reads as before; the listed tables read as the program's text lays them. -/
import Derived.Test.YtdcgnfkkklbckaaGreatDoorZsh
import Derived.Shelf.Strings.BuilderK
import Derived.Test.YtdcgnfkkklbckaaGreatDoorRows
import Derived.Shelf.Strconv.Itoa3
import Derived.Shelf.Strings.Split
import Derived.Shelf.Strings.FieldsFuncAny
import Derived.Shelf.Strings.SlTrimAscii
import Derived.Shelf.Strconv.Atoi
import Derived.Test.YtdcgnfkkklbckaaGreatDoorZsg
import Derived.WalkKit
import Derived.Test.YtdcgnfkkklbckaaGreatDoorTie
import Derived.ProofKit
import Derived.OpenShut
import Derived.ShutString
import Derived.ChangeOld
import Derived.Below
import Derived.LaidMore
import Derived.Lay
import Derived.LaidSub
import Derived.SevenTiedAt
import Derived.Shelf.Vars
import Derived.MakeChecks
import Derived.Test.YtdcgnfkkklbckaaGreatDoorCards
/- THE LIBRARY's strings.Builder: what its functions leave of the builder, and that nothing else changes. -/
set_option linter.unusedSimpArgs false
set_option linter.unusedVariables false
namespace Go.Proofs.YtdcgnfkkklbckaaGreatDoor
namespace Pv
open Go.Shelf Go.RowKit
variable {P : Program} {ρ : Ren}
structure Held (T e : TypeId) (b : Nat) (p v : Value) (s : List UInt8) (w : World) : Prop where
 cells : w.heap[b]? = some (.cells #[p, v] T (0, 0))
 own : w.ownsRowF 0 e 1 v s.length (bytesV s)
 ne : v.ownBlock ≠ some b
def self (b : Nat) : Value := .pointer (some ⟨b, 0, none⟩)
theorem bytesV_length (s : List UInt8) : (bytesV s).length = s.length := by simp [bytesV]
theorem strCells_bytes (s : List UInt8) : Lib.strCells ⟨s.toArray⟩ = bytesV s := by simp [Lib.strCells, bytesV]
theorem Held.at_ {T e : TypeId} {b : Nat} {p v : Value} {s : List UInt8} {w : World} (h : Held T e b p v s w) : Lib.BuilderAtF T e 0 b p (bytesV s) w :=
 ⟨Nat.zero_le _, v, h.cells, by rw [bytesV_length]; exact h.own, h.ne⟩
theorem Held.lt {T e : TypeId} {b : Nat} {p v : Value} {s : List UInt8} {w : World} (h : Held T e b p v s w) : b < w.heap.size := (Array.getElem?_eq_some_iff.1 h.cells).1
theorem held_check (L : Lays.n240 P ρ) (X : Builder.X72 P ρ) {b : Nat} {p v : Value} {s : List UInt8} {w : World} (hp : p = .pointer none ∨ p = self b) (h : Held (ρ.t 72) (ρ.t 5) b p v s w) :
  Calls P (ρ.f 240) #[.pointer (some ⟨b, 0, none⟩)] w fun e w' => e = .returned (.tuple #[]) ∧ Held (ρ.t 72) (ρ.t 5) b (self b) v s w' ∧ Keeps (· = b) w w' := by
 rcases hp with rfl | rfl
 ·refine (Any.Builder_copyCheck_fresh L X b w h.at_.cell0 h.at_.shape ?_).mono ?_
  ·simp [World.frozen?, h.cells]
  ·rintro e w' ⟨rfl, rfl⟩
   have hk : Keeps (· = b) w (w.setCell ⟨b, 0, none⟩ (.pointer (some ⟨b, 0, none⟩))) :=
    ⟨rfl, rfl, rfl, by simp [World.setCell], fun k _ hk => Below.heap_setCell _ _ _ _ (fun e => hk (by simp [e]))⟩
   refine ⟨rfl, ⟨?_, ?_, h.ne⟩, hk⟩
   ·simp [World.setCell, Array.getElem?_modify, h.cells, self]
   ·exact h.own.kept (row := some b) ⟨rfl, rfl, rfl, by simp [World.setCell], fun k _ hk => Below.heap_setCell _ _ _ _ (fun e => hk (by simp [e]))⟩ (.inr h.ne)
 ·refine (Any.Builder_copyCheck_used L X b w h.at_.cell0).mono ?_
  rintro e w' ⟨rfl, rfl⟩
  exact ⟨rfl, h, Keeps.refl _ _⟩
theorem held_put {T e : TypeId} {b : Nat} {v v' : Value} {s s' : List UInt8} {w w1 w2 : World} (h1 : Held T e b (self b) v s w1) (hk : Keeps (· = b) w w1) (hg : w1.grownBy w2 v.ownBlock) (hTe : T ≠ e)
  (ho : w2.ownsRowF 0 e 1 v' s'.length (bytesV s')) :
  Held T e b (self b) v' s' (w2.setCell ⟨b, 1, none⟩ v') ∧ Keeps (fun k => k = b ∨ v.ownBlock = some k) w (w2.setCell ⟨b, 1, none⟩ v') := by
 have hb2 : w2.heap[b]? = some (.cells #[self b, v] T (0, 0)) := by
  rw [hg.block b h1.lt (fun e => h1.ne e.symm)]; exact h1.cells
 have hput : Lib.BuilderAtF T e 0 b (self b) (bytesV s') (w2.setCell ⟨b, 1, none⟩ v') :=
  Lib.BuilderAtF.put (Nat.zero_le _) hb2 (by rw [bytesV_length]; exact ho) hTe
 obtain ⟨_, u, q1, q2, q3⟩ := hput
 have hu : u = v' := by
  have : (w2.setCell ⟨b, 1, none⟩ v').heap[b]? = some (.cells #[self b, v'] T (0, 0)) := by simp [World.setCell, Array.getElem?_modify, hb2]
  rw [q1] at this
  simp only [Option.some.injEq, Obj.cells.injEq] at this
  have h := congrArg (·[1]?) this.1
  simpa using h
 subst hu
 refine ⟨⟨q1, by rw [bytesV_length] at q2; exact q2, q3⟩, ?_⟩
 have hs2 : (w2.setCell ⟨b, 1, none⟩ u).heap.size = w2.heap.size := by simp [World.setCell]
 refine ⟨hg.os.trans hk.os, hg.tape.trans hk.tape, hg.output.trans hk.output, by rw [hs2]; exact Nat.le_trans hk.size hg.size, fun k hlt hn => ?_⟩
 have h2 : (w2.setCell ⟨b, 1, none⟩ u).heap[k]? = w2.heap[k]? := Below.heap_setCell _ _ _ _ (fun e => hn (.inl (by simpa using e)))
 rw [h2, hg.block k (Nat.lt_of_lt_of_le hlt hk.size) (fun e => hn (.inr e.symm))]
 exact hk.block k hlt (fun e => hn (.inl e))
theorem run_app_str (w : World) (t u ty e : TypeId) (i : TypeInfo) (ht : P.underlying t = some (.slice e)) (hu : P.underlying u = some .string) (hi : P.info? e = some i) (hz : i.zero = some (.int .u8 0)) (hsize : i.size = 1) (hby : i.bytes = 1)
  (v : Value) (n : Nat) (xs : List Value) (hown : w.ownsRowF 0 e 1 v n xs) (s : ByteArray) (h63 : n + s.size ≤ maxLen) (hbytes : n + s.size ≤ 140737488355328) :
  ∃ v' w', (Builtin.append_ #[t, u] ty #[v, .string s]).run P w = .ok v' w' ∧ w'.ownsRowF 0 e 1 v' (n + s.size) (xs ++ Lib.strCells s) ∧ w.grownBy w' v.ownBlock ∧ (∀ g, v'.ownBlock = some g → v.ownBlock = some g ∨ w.heap.size ≤ g) := by
 have hown0 := hown
 rcases hown.2 with ⟨rfl, rfl⟩ | ⟨g, cap, cur, fz, rfl, hbg, hg, hfz, hnc, hcm, hcs, htake⟩
 ·obtain ⟨v', w', hr, h2, h3, _⟩ := Lib.run_append_own_stringF (P := P) w w.heap.size t u ty e i ht hu hi hz hsize hby (.slice none 0 0) 0 xs ⟨hown.1, .inl ⟨rfl, rfl⟩⟩ s h63 hbytes (Nat.le_refl _)
  refine ⟨v', w', hr, ⟨h2.1, ?_⟩, h3, fun k hk => .inr (h2.lt k hk).1⟩
  rcases h2.2 with h4 | ⟨g, cap, cur, fz, q1, q2, q3⟩
  ·exact .inl h4
  ·exact .inr ⟨g, cap, cur, fz, q1, Nat.zero_le _, q3⟩
 ·obtain ⟨v', w', hr, h2, h3, _⟩ := Lib.run_append_own_stringF (P := P) w 0 t u ty e i ht hu hi hz hsize hby (.slice (some ⟨g, 0, none⟩) n cap) n xs hown0 s h63 hbytes (Nat.zero_le _)
  refine ⟨v', w', hr, h2, h3, fun k hk => ?_⟩
  have hxl : xs.length = n := by simpa using hown.1
  have hsm : n + s.size ≤ 9223372036854775807 := by simp only [maxLen] at h63; omega
  by_cases hroom : n + s.size ≤ cap
  ·have hr2 := Lib.run_append_room_stringF (P := P) w t u ty e i ht hu hi hsize g n cap cur fz hg (by simpa using hfz) s hroom (by rw [hcs]; omega)
   rw [hr] at hr2
   injection hr2 with e1 e2
   subst e1
   exact .inl hk
  ·have hr2 := Lib.run_append_grow_string (P := P) w t u ty e i (.int .u8 0) ht hu hi hz ⟨g, 0, none⟩ n cap xs (by rw [hsize]; simpa using hxl) (hown.cells (g := g) rfl) s (by omega) (by omega) (by rw [hby]; exact growslice_fits (by omega) (by omega))
   rw [hr] at hr2
   injection hr2 with e1 e2
   subst e1
   simp only [Value.ownBlock, Option.some.injEq] at hk
   exact .inr (by rw [← hk]; exact Nat.le_refl _)
theorem run_app_row (w : World) (t ty e : TypeId) (i : TypeInfo) (z : Value) (ht : P.underlying t = some (.slice e)) (hi : P.info? e = some i) (hz : i.zero = some z) (hsize : i.size = 1) (hby : i.bytes = 1) (hzs : z.cells.size = 1)
  (v : Value) (n : Nat) (xs : List Value) (hown : w.ownsRowF 0 e 1 v n xs) (a : Addr) (m c : Nat) (news : List Value) (hl : news.length = m * 1) (hnews : ∀ j u, news[j]? = some u → w.cell? (a.add j) = some u) (h1 : ∀ u ∈ news, u.oneCell' = true)
  (h63 : n + m ≤ maxLen) (hbytes : (n + m) * 1 ≤ 140737488355328) :
  ∃ v' w', (Builtin.append_ #[t, t] ty #[v, .slice (some a) m c]).run P w = .ok v' w' ∧ w'.ownsRowF 0 e 1 v' (n + m) (xs ++ news) ∧ w.grownBy w' v.ownBlock ∧ (∀ g, v'.ownBlock = some g → v.ownBlock = some g ∨ w.heap.size ≤ g) := by
 have hown0 := hown
 rcases hown.2 with ⟨rfl, rfl⟩ | ⟨g, cap, cur, fz, rfl, hbg, hg, hfz, hnc, hcm, hcs, htake⟩
 ·obtain ⟨v', w', hr, h2, h3, _⟩ := run_append_ownF (P := P) w w.heap.size t ty e i z 1 1 ht hi hz hsize hby hzs (by decide) (.slice none 0 0) 0 xs ⟨hown.1, .inl ⟨rfl, rfl⟩⟩ a m c news hl hnews h1 h63 hbytes (Nat.le_refl _)
  refine ⟨v', w', hr, ⟨h2.1, ?_⟩, h3, fun k hk => .inr (h2.lt k hk).1⟩
  rcases h2.2 with h4 | ⟨g, cap, cur, fz, q1, q2, q3⟩
  ·exact .inl h4
  ·exact .inr ⟨g, cap, cur, fz, q1, Nat.zero_le _, q3⟩
 ·obtain ⟨v', w', hr, h2, h3, _⟩ := run_append_ownF (P := P) w 0 t ty e i z 1 1 ht hi hz hsize hby hzs (by decide) (.slice (some ⟨g, 0, none⟩) n cap) n xs hown0 a m c news hl hnews h1 h63 hbytes (Nat.zero_le _)
  refine ⟨v', w', hr, h2, h3, fun k hk => ?_⟩
  have hsm : n + m ≤ 9223372036854775807 := by simp only [maxLen] at h63; omega
  by_cases hroom : n + m ≤ cap
  ·have hr2 := run_append_roomF (P := P) w t ty e i ht hi g n cap cur fz hg (by rw [hsize]; exact hfz) a m c news (by rw [hsize]; exact hl) hnews h1 hroom (by rw [hsize, hl, hcs]; omega)
   rw [hr] at hr2
   injection hr2 with e1 e2
   subst e1
   exact .inl hk
  ·have hr2 := run_append_grow (P := P) w t ty e i z ht hi hz ⟨g, 0, none⟩ n cap xs (by rw [hsize]; exact hown.1) (hown.cells (g := g) rfl) a m c news (by rw [hsize]; exact hl) hnews (by omega) (by omega) (by rw [hby]; exact growslice_fits (by omega) hbytes)
   rw [hr] at hr2
   injection hr2 with e1 e2
   subst e1
   simp only [Value.ownBlock, Option.some.injEq] at hk
   exact .inr (by rw [← hk]; exact Nat.le_refl _)
theorem wp_app_str {ops : Array Oper} {rest : List Oper} {o : Oper} {a : Act} {Q : Exit → Act → World → Prop} {w : World} (hgd : o.guard = none) (sl x : Operand) (t u : TypeId) (ho : o.op = .call { callee := .builtin .append, args := #[sl, x], argTypes := #[t, u] })
  (e : TypeId) (i : TypeInfo) (ht : P.underlying t = some (.slice e)) (hu : P.underlying u = some .string) (hi : P.info? e = some i) (hz : i.zero = some (.int .u8 0)) (hsize : i.size = 1) (hby : i.bytes = 1)
  (v : Value) (n : Nat) (xs : List Value) (hs : a.eval sl = v) (hown : w.ownsRowF 0 e 1 v n xs) (s : ByteArray) (hx : a.eval x = .string s) (h63 : n + s.size ≤ maxLen) (hbytes : n + s.size ≤ 140737488355328)
  (h : ∀ v' w', w'.ownsRowF 0 e 1 v' (n + s.size) (xs ++ Lib.strCells s) → w.grownBy w' v.ownBlock → (∀ g, v'.ownBlock = some g → v.ownBlock = some g ∨ w.heap.size ≤ g) → wpList P ops Q rest (a.put o.dst v') w') : wpList P ops Q (o :: rest) a w := by
 refine wpList_plain hgd fun K hK => ?_
 obtain ⟨v', w', hr, h2, h3, h4⟩ := run_app_str (P := P) w t u o.type e i ht hu hi hz hsize hby v n xs hown s h63 hbytes
 unfold Oper.wp execOp
 simp only [ho, resolve, invoke, builtin, Sem.run_bind, Sem.run_pure, Result.andThen_ok, List.map_toArray, List.map_cons, List.map_nil, hs, hx, hr]
 exact hK _ _ (h v' w' h2 h3 h4)
theorem wp_app_row {ops : Array Oper} {rest : List Oper} {o : Oper} {a : Act} {Q : Exit → Act → World → Prop} {w : World} (hgd : o.guard = none) (sl x : Operand) (t : TypeId) (ho : o.op = .call { callee := .builtin .append, args := #[sl, x], argTypes := #[t, t] })
  (e : TypeId) (i : TypeInfo) (z : Value) (ht : P.underlying t = some (.slice e)) (hi : P.info? e = some i) (hz : i.zero = some z) (hsize : i.size = 1) (hby : i.bytes = 1) (hzs : z.cells.size = 1)
  (v : Value) (n : Nat) (xs : List Value) (hs : a.eval sl = v) (hown : w.ownsRowF 0 e 1 v n xs) (ad : Addr) (m c : Nat) (news : List Value) (hx : a.eval x = .slice (some ad) m c) (hl : news.length = m * 1) (hnews : ∀ j u, news[j]? = some u → w.cell? (ad.add j) = some u)
  (h1 : ∀ u ∈ news, u.oneCell' = true) (h63 : n + m ≤ maxLen) (hbytes : (n + m) * 1 ≤ 140737488355328)
  (h : ∀ v' w', w'.ownsRowF 0 e 1 v' (n + m) (xs ++ news) → w.grownBy w' v.ownBlock → (∀ g, v'.ownBlock = some g → v.ownBlock = some g ∨ w.heap.size ≤ g) → wpList P ops Q rest (a.put o.dst v') w') : wpList P ops Q (o :: rest) a w := by
 refine wpList_plain hgd fun K hK => ?_
 obtain ⟨v', w', hr, h2, h3, h4⟩ := run_app_row (P := P) w t o.type e i z ht hi hz hsize hby hzs v n xs hown ad m c news hl hnews h1 h63 hbytes
 unfold Oper.wp execOp
 simp only [ho, resolve, invoke, builtin, Sem.run_bind, Sem.run_pure, Result.andThen_ok, List.map_toArray, List.map_cons, List.map_nil, hs, hx, hr]
 exact hK _ _ (h v' w' h2 h3 h4)
set_option maxHeartbeats 2000000 in
set_option maxRecDepth 100000 in
theorem held_string (L : Lays.n166 P ρ) (X : Builder.Extra P ρ) {b : Nat} {p v : Value} {s : List UInt8} {w : World} (hp : p = .pointer none ∨ p = self b) (h : Held (ρ.t 72) (ρ.t 5) b p v s w) (x : List UInt8)
  (hlen : s.length + x.length ≤ 140737488355328) :
  Calls P (ρ.f 166) #[.pointer (some ⟨b, 0, none⟩), .string ⟨x.toArray⟩] w fun e w' => e = .returned (.tuple #[.int .i64 x.length, .nilIface]) ∧
   ∃ v', Held (ρ.t 72) (ρ.t 5) b (self b) v' (s ++ x) w' ∧ Keeps (fun k => k = b ∨ v.ownBlock = some k) w w' ∧ (∀ g, v'.ownBlock = some g → v.ownBlock = some g ∨ w.heap.size ≤ g) := by
 obtain ⟨i0, hi, hz0, hz1, hz2⟩ := info_parts X.infoByte
 have mixed := L.mixed
 have t72 := L.t72; have a72 := L.a72; have z72 := L.z72; have v72 := L.v72; have u72 := run_underlying L.t72
 have t70 := L.t70; have a70 := L.a70; have z70 := L.z70; have v70 := L.v70; have u70 := run_underlying L.t70
 have t37 := L.t37; have a37 := L.a37; have z37 := L.z37; have v37 := L.v37; have u37 := run_underlying L.t37
 have t3 := L.t3; have a3 := L.a3; have z3 := L.z3; have v3 := L.v3; have u3 := run_underlying L.t3
 have t9 := L.t9; have a9 := L.a9; have z9 := L.z9; have v9 := L.v9; have u9 := run_underlying L.t9
 have t5 := X.t5; have a5 := X.a5; have z5 := X.z5; have v5 := X.v5; have u5 := run_underlying X.t5
 have e240 : ∀ args w, (callFunc (ρ.f 240) args).run P w = .ok (.enter (ρ.f 240) args) w := enters_of L.f240 (by kernel_rfl) rfl
 go_enter L.f166, Body.n166_ntmps ρ
 go_wp2_with (go_at_fn (ρ.f 240); refine (held_check { L with } X.toX72 hp h).mono ?_)
 rintro e w1 ⟨rfl, h1, hk1⟩
 have c0 : w1.cell? ⟨b, 0, none⟩ = some (self b) := by rw [Lib.cell_of_heap h1.cells]; rfl
 have c1 : w1.cell? ⟨b, 1, none⟩ = some v := by rw [Lib.cell_of_heap h1.cells]; rfl
 go_wp2_with (at_builtin; refine wp_app_str rfl _ _ (ρ.t 37) (ρ.t 9) rfl (ρ.t 5) i0 L.t37 L.t9 hi hz0 hz1 hz2 _ _ _ rfl h1.own ⟨x.toArray⟩ rfl ?k1 ?k2 ?_)
 case k1 => unfold maxLen; show _ + x.toArray.size ≤ _; rw [List.size_toArray]; omega
 case k2 => show _ + x.toArray.size ≤ _; rw [List.size_toArray]; omega
 intro v' w2 ho' hgrow hold
 have ho2 : w2.ownsRowF 0 (ρ.t 5) 1 v' (s ++ x).length (bytesV (s ++ x)) := by
  have := ho'
  rw [strCells_bytes] at this
  simpa [bytesV] using this
 obtain ⟨r1, r2⟩ := held_put h1 hk1 hgrow X.neB5 ho2
 have hb2 : w2.heap[b]? = some (.cells #[self b, v] (ρ.t 72) (0, 0)) := by
  rw [hgrow.block b h1.lt (fun e => h1.ne e.symm)]; exact h1.cells
 have d0 : w2.cell? ⟨b, 0, none⟩ = some (self b) := by rw [Lib.cell_of_heap hb2]; rfl
 have d1 : w2.cell? ⟨b, 1, none⟩ = some v := by rw [Lib.cell_of_heap hb2]; rfl
 have f1 : w2.frozen? ⟨b, 1, none⟩ = false := Lib.frozen_of_heap hb2 1
 obtain ⟨ao, n', cap, rfl⟩ : ∃ ao n' cap, v' = .slice ao n' cap := by
  rcases ho'.2 with ⟨hv, _⟩ | ⟨g, cap, cur, fz, hv, _⟩
  ·exact ⟨_, _, _, hv⟩
  ·exact ⟨_, _, _, hv⟩
 go_wp2
 go_ret2
 refine ⟨?_, _, r1, r2, fun g hg => ?_⟩
 ·rfl
 ·exact (hold g hg).imp id fun h5 => Nat.le_trans hk1.size h5
theorem freeze_keep (w : World) (g : Nat) {n : Nat} (hn : n ≠ 0) : Keeps (fun k => k = g) w (w.freeze ⟨g, 0, none⟩ n) := by
 unfold World.freeze
 rw [if_neg hn]
 exact ⟨rfl, rfl, rfl, by simp, fun k _ hk => by simp [Array.getElem?_modify, Ne.symm hk]⟩
theorem Held.alloc {T e : TypeId} {b : Nat} {p v : Value} {s : List UInt8} {w : World} (h : Held T e b p v s w) (o : Obj) : Held T e b p v s (w.alloc o) :=
 ⟨by rw [Lib.alloc_old w o b h.lt]; exact h.cells, h.own.alloc o, h.ne⟩
set_option maxHeartbeats 2000000 in
set_option maxRecDepth 100000 in
theorem held_byte (L : Lays.n167 P ρ) (X : Builder.Extra P ρ) {b : Nat} {p v : Value} {s : List UInt8} {w : World} (hp : p = .pointer none ∨ p = self b) (h : Held (ρ.t 72) (ρ.t 5) b p v s w) (x : UInt8)
  (hlen : s.length + 1 ≤ 140737488355328) :
  Calls P (ρ.f 167) #[.pointer (some ⟨b, 0, none⟩), .int .u8 x.toNat] w fun e w' => e = .returned .nilIface ∧
   ∃ v', Held (ρ.t 72) (ρ.t 5) b (self b) v' (s ++ [x]) w' ∧ Keeps (fun k => k = b ∨ v.ownBlock = some k) w w' ∧ (∀ g, v'.ownBlock = some g → v.ownBlock = some g ∨ w.heap.size ≤ g) := by
 obtain ⟨i0, hi, hz0, hz1, hz2⟩ := info_parts X.infoByte
 have mixed := L.mixed
 have t72 := L.t72; have a72 := L.a72; have z72 := L.z72; have v72 := L.v72; have u72 := run_underlying L.t72
 have t70 := L.t70; have a70 := L.a70; have z70 := L.z70; have v70 := L.v70; have u70 := run_underlying L.t70
 have t5 := L.t5; have a5 := L.a5; have z5 := L.z5; have v5 := L.v5; have u5 := run_underlying L.t5
 have t37 := L.t37; have a37 := L.a37; have z37 := L.z37; have v37 := L.v37; have u37 := run_underlying L.t37
 have e240 : ∀ args w, (callFunc (ρ.f 240) args).run P w = .ok (.enter (ρ.f 240) args) w := enters_of L.f240 (by kernel_rfl) rfl
 go_enter L.f167, Body.n167_ntmps ρ
 go_wp2_with (go_at_fn (ρ.f 240); refine (held_check { L with } X.toX72 hp h).mono ?_)
 rintro e w1 ⟨rfl, h1, hk1⟩
 have c0 : w1.cell? ⟨b, 0, none⟩ = some (self b) := by rw [Lib.cell_of_heap h1.cells]; rfl
 have c1 : w1.cell? ⟨b, 1, none⟩ = some v := by rw [Lib.cell_of_heap h1.cells]; rfl
 go_wp2_with (at_builtin; refine wp_app_row rfl _ _ (ρ.t 37) rfl (ρ.t 5) i0 (.int .u8 0) L.t37 hi hz0 hz1 hz2 rfl _ _ _ rfl (h1.own.alloc _) ⟨w1.heap.size, 0, none⟩ 1 1 [.int .u8 x.toNat] rfl rfl ?k1 ?k2 ?k3 ?k4 ?_)
 case k1 =>
  intro j u hj
  match j, hj with
  | 0, hj => simp at hj; subst hj; simp [Addr.add]
 case k2 => intro u hu; simp at hu; subst hu; rfl
 case k3 => unfold maxLen; omega
 case k4 => omega
 intro v' w2 ho' hgrow hold
 have ho2 : w2.ownsRowF 0 (ρ.t 5) 1 v' (s ++ [x]).length (bytesV (s ++ [x])) := by simpa [bytesV] using ho'
 obtain ⟨r1, r2⟩ := held_put (h1.alloc _) (hk1.trans (Keeps.alloc _ _ _)) hgrow X.neB5 ho2
 have hb2 : w2.heap[b]? = some (.cells #[self b, v] (ρ.t 72) (0, 0)) := by
  rw [hgrow.block b (h1.alloc _).lt (fun e => h1.ne e.symm)]; exact (h1.alloc _).cells
 have d0 : w2.cell? ⟨b, 0, none⟩ = some (self b) := by rw [Lib.cell_of_heap hb2]; rfl
 have d1 : w2.cell? ⟨b, 1, none⟩ = some v := by rw [Lib.cell_of_heap hb2]; rfl
 have f1 : w2.frozen? ⟨b, 1, none⟩ = false := Lib.frozen_of_heap hb2 1
 obtain ⟨ao, n', cap, rfl⟩ : ∃ ao n' cap, v' = .slice ao n' cap := by
  rcases ho'.2 with ⟨hv, _⟩ | ⟨g, cap, cur, fz, hv, _⟩
  ·exact ⟨_, _, _, hv⟩
  ·exact ⟨_, _, _, hv⟩
 go_wp2
 go_ret
 refine ⟨rfl, _, r1, r2, fun g hg => ?_⟩
 refine (hold g hg).imp id fun h5 => Nat.le_trans hk1.size (Nat.le_trans ?_ h5)
 simp
set_option maxHeartbeats 2000000 in
set_option maxRecDepth 100000 in
theorem held_text (L : Lays.n169 P ρ) (X : Builder.Extra P ρ) {b : Nat} {p v : Value} {s : List UInt8} {w : World} (h : Held (ρ.t 72) (ρ.t 5) b p v s w) (h0 : s ≠ []) :
  Calls P (ρ.f 169) #[.pointer (some ⟨b, 0, none⟩)] w fun e w' => e = .returned (.string ⟨s.toArray⟩) ∧ Held (ρ.t 72) (ρ.t 5) b p v s w' ∧ Keeps (fun k => k = b ∨ v.ownBlock = some k) w w' := by
 have hl0 : s.length ≠ 0 := by simpa using h0
 obtain ⟨g, cap, cur, fz, hv, _, hg, hfz, hnc, hcm, hcs, htake⟩ : ∃ g cap cur fz, v = .slice (some ⟨g, 0, none⟩) s.length cap ∧ 0 ≤ g ∧ w.heap[g]? = some (.cells cur (ρ.t 5) fz) ∧ fz.2 ≤ s.length * 1 ∧ s.length ≤ cap ∧ cap ≤ maxLen ∧ cur.size = cap * 1 ∧ cur.toList.take (s.length * 1) = bytesV s := by
  rcases h.own.2 with ⟨_, hz⟩ | ⟨g, cap, cur, fz, hv, r⟩
  ·exact absurd hz hl0
  ·exact ⟨g, cap, cur, fz, hv, r⟩
 have hgb : g ≠ b := fun e => h.ne (by rw [hv, e]; rfl)
 have c1 : w.drew.cell? ⟨b, 1, none⟩ = some (.slice (some ⟨g, 0, none⟩) s.length cap) := by
  have : w.drew.heap[b]? = some (.cells #[p, v] (ρ.t 72) (0, 0)) := h.cells
  rw [Lib.cell_of_heap this, hv]; rfl
 have hSD : (Builtin.unsafeSliceData_ #[(ρ.t 37)] (ρ.t 127) #[.slice (some ⟨g, 0, none⟩) s.length cap]).run P w.drew = .ok (.pointer (some ⟨g, 0, none⟩)) w.drew :=
  Lib.run_unsafeSliceData_row _ _ _ _ _ _ (by omega)
 have hUS : (Builtin.unsafeString_ #[(ρ.t 127), (ρ.t 3)] (ρ.t 9) #[.pointer (some ⟨g, 0, none⟩), .int .i64 s.length]).run P w.drew = .ok (.string ⟨s.toArray⟩) (w.drew.freeze ⟨g, 0, none⟩ s.length) := by
  refine Lib.run_unsafeString_row w.drew (ρ.t 127) (ρ.t 3) (ρ.t 9) (ρ.t 5) L.t127 X.cellsByte g cur.size (by have hg' : w.drew.heap[g]? = some (.cells cur (ρ.t 5) fz) := hg; simp [World.shape?, hg']) s h0 (by omega) (by unfold maxLen at hcm; omega) ?_
  intro j x hx
  have := h.own.cells (g := g) (by rw [hv]; rfl) j (.int .u8 x.toNat) (by simp [bytesV, hx])
  exact this
 have hkeep : Held (ρ.t 72) (ρ.t 5) b p v s (w.drew.freeze ⟨g, 0, none⟩ s.length) := by
  have hA : Lib.BuilderAtF (ρ.t 72) (ρ.t 5) 0 b p (bytesV s) w.drew := h.at_
  have hF := hA.froze (g := g) (cap := cap) (by rw [bytesV_length]; exact c1)
  rw [bytesV_length] at hF
  obtain ⟨_, u, q1, q2, q3⟩ := hF
  have hu : u = v := by
   have hk2 : (w.drew.freeze ⟨g, 0, none⟩ s.length).heap[b]? = some (.cells #[p, v] (ρ.t 72) (0, 0)) := by
    rw [show (w.drew.freeze ⟨g, 0, none⟩ s.length).heap[b]? = w.heap[b]? from (freeze_keep w.drew g hl0).block b h.lt (Ne.symm hgb)]; exact h.cells
   rw [q1] at hk2
   simp only [Option.some.injEq, Obj.cells.injEq] at hk2
   have h := congrArg (·[1]?) hk2.1
   simpa using h
  subst hu
  exact ⟨q1, by rw [bytesV_length] at q2; exact q2, q3⟩
 have hks : Keeps (fun k => k = b ∨ v.ownBlock = some k) w (w.drew.freeze ⟨g, 0, none⟩ s.length) :=
  ((Keeps.drew (fun k => k = g) w).trans (freeze_keep w.drew g hl0)).mono fun k _ e => .inr (by rw [hv, e]; rfl)
 have mixed := L.mixed
 have t72 := L.t72; have a72 := L.a72; have z72 := L.z72; have v72 := L.v72; have u72 := run_underlying L.t72
 have t70 := L.t70; have a70 := L.a70; have z70 := L.z70; have v70 := L.v70; have u70 := run_underlying L.t70
 have t37 := L.t37; have a37 := L.a37; have z37 := L.z37; have v37 := L.v37; have u37 := run_underlying L.t37
 have t127 := L.t127; have a127 := L.a127; have z127 := L.z127; have v127 := L.v127; have u127 := run_underlying L.t127
 have t3 := L.t3; have a3 := L.a3; have z3 := L.z3; have v3 := L.v3; have u3 := run_underlying L.t3
 have t9 := L.t9; have a9 := L.a9; have z9 := L.z9; have v9 := L.v9; have u9 := run_underlying L.t9
 have t5 := X.t5; have a5 := X.a5; have z5 := X.z5; have v5 := X.v5; have u5 := run_underlying X.t5
 go_enter L.f169, Body.n169_ntmps ρ
 go_wp2
 go_region_o
 all_goals (go_wp2; go_ret; exact ⟨rfl, hkeep, hks⟩)
end Pv
end Go.Proofs.YtdcgnfkkklbckaaGreatDoor
/- THE LIBRARY's functions on texts: general forms of their contracts in the words of pure calls. -/
set_option linter.unusedSimpArgs false
set_option linter.unusedVariables false
namespace Go.Proofs.YtdcgnfkkklbckaaGreatDoor
namespace Pv
open Go.RowKit
theorem ownsF_lt {w : World} {e z n : Nat} {v : Value} {vs : List Value} (h : w.ownsRowF 0 e z v n vs) : ∀ b, v.ownBlock = some b → b < w.heap.size := fun b hb => by
 rcases h.2 with ⟨h0, _⟩ | ⟨g, cap, cur, fz, h0, _, h2, _⟩
 ·subst h0; cases hb
 ·subst h0; injection hb with hb; subst hb
  exact (Array.getElem?_eq_some_iff.1 h2).1
theorem pure_bld {P : Program} {f T e : Nat} {args : List PV} {us : List Value} {val : PV} {rv : Value} {s s' : List UInt8}
  (hfn : ∃ fn, P.funcs[f]? = some fn ∧ fn.body.isSome = true ∧ (fn.name == "runtime.NumGoroutine") = false)
  (hargs : ∀ (X : Cx) (γ : Gh) (w : World) (vals : List Value), RepL X γ w args vals → vals = us) (hval : ∀ (X : Cx) (γ : Gh) (w : World), Rep X γ w val rv)
  (h : ∀ (w : World) (b : Nat) (p v : Value), (p = .pointer none ∨ p = self b) → Held T e b p v s w →
   Calls P f (self b :: us).toArray w fun ev w' => ev = .returned rv ∧ ∃ p' v', (p' = .pointer none ∨ p' = self b) ∧ Held T e b p' v' s' w' ∧ Keeps (fun k => k = b ∨ v.ownBlock = some k) w w' ∧ (∀ g, v'.ownBlock = some g → v.ownBlock = some g ∨ w.heap.size ≤ g)) :
  PureCall P f (.pt 0 0 0 :: args) [.bld T e s] ⟨val, [.bld T e s'], []⟩ := by
 refine ⟨hfn, fun w γ as_ ls vals hst hX hr => ?_⟩
 obtain ⟨v0, us', rfl, hv, hus⟩ := hr.cons_inv
 have := hargs _ _ _ _ hus
 subst this
 obtain ⟨ge, b, hge, hgb, rfl⟩ := pt_inv hv
 obtain ⟨b', p, v, g1, g2, g3, g4, g5, g6⟩ := hst.at_ 0 ge (.bld T e s) hge rfl
 have hb : b' = b := by rw [g1] at hgb; injection hgb
 subst hb
 have hheld : Held T e b' p v s w := ⟨g4, g5, g6⟩
 have hself : Value.pointer (some ⟨b', 0 * ge.z + 0, none⟩) = self b' := by rw [Nat.zero_mul]; rfl
 rw [hself]
 refine (h w b' p v g3 hheld).mono ?_
 rintro ev w' ⟨he, p', v', hp', hH, hk, hold⟩
 have hnone : ∀ r, r ≠ 0 → γ r = none := fun r hr => by
  have := hst.dom r
  rw [List.getElem?_eq_none (by simp; omega)] at this
  simpa using this
 have hblt : b' < w.heap.size := hheld.lt
 let ge' : GE := ⟨some b', v', ge.z⟩
 have hhas : ∀ k, ge'.has k → ge.has k ∨ w.heap.size ≤ k := fun k hk => by
  rcases hk with hk | hk
  ·exact .inl (.inl (by injection hk with hk; rw [← hk]; exact g1))
  ·exact (hold k hk).imp (fun h => .inr (by rw [g2]; exact h)) id
 have hown : ∀ k, ge.has k → γ.own k := fun k hk => ⟨0, ge, hge, hk⟩
 have hown' : ∀ k, Gh.own (fun r => if r = 0 then some ge' else none) k → γ.own k ∨ w.heap.size ≤ k := fun k ⟨r, g, hr, hb⟩ => by
  by_cases h0 : r = 0
  ·simp only [h0, if_true, Option.some.injEq] at hr
   subst hr
   exact (hhas k hb).imp (hown k) id
  ·simp only [h0, if_false] at hr; cases hr
 have hkeep : Keeps γ.own w w' := hk.mono fun k _ hk => by
  rcases hk with rfl | hk
  ·exact hown _ (.inl g1)
  ·exact hown _ (.inr (by rw [g2]; exact hk))
 refine ⟨rv, fun r => if r = 0 then some ge' else none, he, hval _ _ _, ?_, hkeep, fun r hr => ?_, fun r g k hr hb => ?_⟩
 ·refine ⟨fun r => ?_, fun r g se hr hs => ?_, fun r r' g g' k hr hr' _ _ => ?_, fun k hk => ?_, fun k ⟨r, g, hr, hb⟩ => ?_, ?_⟩
  rotate_right
  ·exact glob_keep hst.glob (fun k hlt hn => hkeep.block k hlt hn) hown'
  ·by_cases h : r = 0
   ·subst h; rfl
   ·simp only [h, if_false, resSt]
    by_cases h2 : newBase ≤ r
    ·rw [if_pos h2]; rfl
    ·rw [if_neg h2, List.getElem?_eq_none (by simp; omega)]; rfl
  ·by_cases h : r = 0
   ·subst h
    simp only [if_true, Option.some.injEq] at hr
    subst hr
    have hs' : some (SE.bld T e s') = some se := hs
    injection hs' with hs'
    subst hs'
    exact ⟨b', p', v', rfl, rfl, hp', hH.cells, hH.own, hH.ne⟩
   ·simp only [h, if_false] at hr; cases hr
  ·by_cases h : r = 0
   ·by_cases h' : r' = 0
    ·rw [h, h']
    ·simp only [h', if_false] at hr'; cases hr'
   ·simp only [h, if_false] at hr; cases hr
  ·rcases hown' k hk with h | h
   ·exact hst.asOff k h
   ·exact ⟨fun ha => by have := hX k (.inl ha); omega, fun ha => by have := hX k (.inr ha); omega⟩
  ·by_cases h : r = 0
   ·simp only [h, if_true, Option.some.injEq] at hr
    subst hr
    rcases hb with hb | hb
    ·injection hb with hb; rw [← hb]; exact hH.lt
    ·exact ownsF_lt hH.own k hb
   ·simp only [h, if_false] at hr; cases hr
 ·have h0 : r = 0 := by simp [parN, nbx] at hr; exact hr
  subst h0
  exact ⟨ge', ge, rfl, hge, g1.symm, rfl⟩
 ·by_cases h : r = 0
  ·simp only [h, if_true, Option.some.injEq] at hr
   subst hr
   rcases hhas k hb with h1 | h1
   ·exact .inr (.inr ⟨ge, by rw [h]; exact hge, h1⟩)
   ·exact .inl h1
  ·simp only [h, if_false] at hr; cases hr
theorem pure_still {P : Program} {f : Nat} {args : List PV} {us : List Value} {val : PV} {rv : Value}
  (hfn : ∃ fn, P.funcs[f]? = some fn ∧ fn.body.isSome = true ∧ (fn.name == "runtime.NumGoroutine") = false)
  (hargs : ∀ (X : Cx) (γ : Gh) (w : World) (vals : List Value), RepL X γ w args vals → vals = us) (hval : ∀ (X : Cx) (γ : Gh) (w : World), Rep X γ w val rv)
  (h : ∀ (w : World), (∀ b p, Pv.glob b = some p → ∃ o, w.heap[b]? = some o ∧ p o) → Calls P f us.toArray w fun ev w' => ev = .returned rv ∧ Keeps (fun _ => False) w w') :
  PureCall P f args [] ⟨val, [], []⟩ := by
 refine ⟨hfn, fun w γ as_ ls vals hst hX hr => ?_⟩
 have := hargs _ _ _ _ hr
 subst this
 refine (h w fun b p hb => (hst.glob b p hb).1).mono ?_
 rintro ev w' ⟨he, hk⟩
 have hnone : ∀ r, γ r = none := fun r => by
  have := hst.dom r
  simpa using this
 have hno : ∀ b, ¬ γ.own b := fun b ⟨r, ge, hr, _⟩ => by rw [hnone r] at hr; cases hr
 have hkeep : Keeps γ.own w w' := hk.mono fun k _ h => h.elim
 refine ⟨rv, γ, he, hval _ _ _, ?_, hkeep, fun r hr => by simp [parN, nbx] at hr, fun r ge b hr hb => by rw [hnone r] at hr; cases hr⟩
 refine ⟨fun r => ?_, fun r ge se hr hs => (by rw [hnone r] at hr; cases hr), fun r r' ge ge' b hr => (by rw [hnone r] at hr; cases hr), fun b hb => absurd hb (hno b), fun b hb => absurd hb (hno b), ?_⟩
 ·rw [hnone r]; unfold resSt
  split <;> rfl
 ·exact glob_keep hst.glob (fun k hlt hn => hkeep.block k hlt hn) fun b hb => .inl hb
theorem pure_new2 {P : Program} {f : Nat} {args : List PV} {us : List Value} {e z n : Nat} {g : Nat → List PV} {vs : List Value}
  (hfn : ∃ fn, P.funcs[f]? = some fn ∧ fn.body.isSome = true ∧ (fn.name == "runtime.NumGoroutine") = false)
  (hargs : ∀ (X : Cx) (γ : Gh) (w : World) (vals : List Value), RepL X γ w args vals → vals = us) (hrows : ∀ (X : Cx) (γ : Gh) (w : World), RowsRep X γ w 0 z n g vs)
  (h : ∀ (w : World), (∀ b p, Pv.glob b = some p → ∃ o, w.heap[b]? = some o ∧ p o) →
   Calls P f us.toArray w fun ev w' => ∃ v', ev = .returned v' ∧ w'.ownsRow w.heap.size e z v' n vs ∧ Keeps (fun _ => False) w w') :
  PureCall P f args [] ⟨.os 1000000000, [], [.row 0 e z n g]⟩ := by
 refine ⟨hfn, fun w γ as_ ls vals hst hX hr => ?_⟩
 have := hargs _ _ _ _ hr
 subst this
 refine (h w fun b p hb => (hst.glob b p hb).1).mono ?_
 rintro ev w' ⟨v', he, ho, hk⟩
 have ho0 : OwnsG w' e z v' n vs := OwnsG_of ho
 have hone : v'.oneCell' = true := slice_one ho0
 have hblk : ∀ b, v'.ownBlock = some b → w.heap.size ≤ b ∧ b < w'.heap.size := fun b hb => by
  refine ⟨?_, own_lt' ho0 b hb⟩
  rcases ho.2 with ⟨h0, _⟩ | ⟨g, cap, cur, h0, h1, _⟩
  ·subst h0; cases hb
  ·subst h0; injection hb with hb; subst hb; exact h1
 have hnone : ∀ r, γ r = none := fun r => by
  have := hst.dom r
  simpa using this
 refine ⟨v', fun r => if r = 1000000000 then some ⟨v'.ownBlock, v', z⟩ else none, he, .os _ ⟨v'.ownBlock, v', z⟩ (by simp) hone rfl, ?_, ⟨hk.os, hk.tape, hk.output, hk.size, fun b hb _ => hk.block b hb (fun h => h)⟩, fun r hr => by simp [parN, nbx] at hr, fun r ge b hr hb => ?_⟩
 ·refine ⟨fun r => ?_, fun r ge se hr hs => ?_, fun r r' ge ge' b hr hr' _ _ => ?_, fun b ⟨r, ge, hr, hb⟩ => ?_, fun b ⟨r, ge, hr, hb⟩ => ?_, ?_⟩
  rotate_right
  ·refine glob_keep hst.glob (fun b hlt _ => hk.block b hlt (fun h => h)) (fun b ⟨r, ge, hr, hb⟩ => ?_)
   by_cases h : r = 1000000000
   ·simp only [h, if_true, Option.some.injEq] at hr
    subst hr
    exact .inr (hblk b ((GE.has_row rfl).1 hb)).1
   ·simp only [h, if_false] at hr; cases hr
  ·by_cases h : r = 1000000000
   ·subst h; simp [resSt, newBase]
   ·simp only [h, if_false, resSt]
    by_cases h2 : newBase ≤ r
    ·have : 1 ≤ r - newBase := by unfold newBase at *; omega
     rw [if_pos h2, List.getElem?_eq_none (by simpa using this)]; rfl
    ·rw [if_neg h2]; simp
  ·by_cases h : r = 1000000000
   ·subst h
    simp only [if_true, Option.some.injEq] at hr
    subst hr
    simp [resSt, newBase] at hs
    subst hs
    exact (hrows _ _ _).repS rfl rfl hone ho0
   ·simp only [h, if_false] at hr; cases hr
  ·by_cases h : r = 1000000000
   ·by_cases h' : r' = 1000000000
    ·rw [h, h']
    ·simp only [h', if_false] at hr'; cases hr'
   ·simp only [h, if_false] at hr; cases hr
  ·by_cases h : r = 1000000000
   ·simp only [h, if_true, Option.some.injEq] at hr
    subst hr
    have := (hblk b ((GE.has_row rfl).1 hb)).1
    exact ⟨fun ha => by have := hX b (.inl ha); omega, fun ha => by have := hX b (.inr ha); omega⟩
   ·simp only [h, if_false] at hr; cases hr
  ·by_cases h : r = 1000000000
   ·simp only [h, if_true, Option.some.injEq] at hr
    subst hr
    exact (hblk b ((GE.has_row rfl).1 hb)).2
   ·simp only [h, if_false] at hr; cases hr
 ·by_cases h : r = 1000000000
  ·simp only [h, if_true, Option.some.injEq] at hr
   subst hr
   exact .inl (hblk b ((GE.has_row rfl).1 hb)).1
  ·simp only [h, if_false] at hr; cases hr
/-! ## texts in a slice -/
def eStr (s : List UInt8) : List PV := [.str s]
def strV (s : List UInt8) : Value := .string ⟨s.toArray⟩
theorem strs_rows {X : Cx} {γ : Gh} {w : World} (l : List (List UInt8)) : RowsRep X γ w 0 1 l.length (fl eStr l) (l.map strV) := by
 refine ⟨by simp, fun u hu => ?_, fun i hi => rfl, fun i hi c hc => ?_, fun i j c u hi hc hu => ?_⟩
 ·obtain ⟨n, _, rfl⟩ := List.mem_map.1 hu; rfl
 ·have : c = .str (l.getD i default) := by simpa [fl, eStr] using hc
  subst this; rfl
 ·have hj : j = 0 := by
   have := (List.getElem?_eq_some_iff.1 hc).1
   simp [fl, eStr] at this; omega
  subst hj
  have : c = .str (l.getD i default) := by
   have h0 : some (PV.str (l.getD i default)) = some c := hc
   injection h0 with h0; exact h0.symm
  subst this
  rw [Nat.mul_one, Nat.add_zero, List.getElem?_map, getD_some hi] at hu
  injection hu with hu; subst hu
  exact .str _
end Pv
end Go.Proofs.YtdcgnfkkklbckaaGreatDoor
/- THE LIBRARY's strings.Builder AT THIS PROGRAM: the layings of its functions. -/
set_option linter.unusedSimpArgs false
set_option linter.unusedVariables false
namespace Go.Proofs.YtdcgnfkkklbckaaGreatDoor
namespace Sh
open Go.Shelf
def lays240_ren : Go.Shelf.Ren := ⟨fun | 166 => 64 | 167 => 66 | 240 => 130 | 276 => 189 | 169 => 67 | n => n, fun | 70 => 167 | 72 => 169 | 37 => 92 | 75 => 171 | 80 => 178 | 164 => 318 | 127 => 263 | n => n, fun | n => n⟩
theorem lays240 : Go.Proofs.Lays.n240 Tryz.prog lays240_ren := {
 mixed := by kernel_rfl
 f240 := Tryz.func130.trans (congrArg some (by kernel_rfl))
 f276 := Tryz.func189.trans (congrArg some (by kernel_rfl))
 t0 := Tryz.underlying0
 a0 := Tryz.isAgg0
 z0 := Tryz.sizeOf0
 v0 := Tryz.zeroValue0
 t4 := Tryz.underlying4
 a4 := Tryz.isAgg4
 z4 := Tryz.sizeOf4
 v4 := Tryz.zeroValue4
 t9 := Tryz.underlying9
 a9 := Tryz.isAgg9
 z9 := Tryz.sizeOf9
 v9 := Tryz.zeroValue9
 t20 := Tryz.underlying20
 a20 := Tryz.isAgg20
 z20 := Tryz.sizeOf20
 v20 := Tryz.zeroValue20
 t70 := Tryz.underlying167
 a70 := Tryz.isAgg167
 z70 := Tryz.sizeOf167
 v70 := Tryz.zeroValue167
 t72 := Tryz.underlying169
 a72 := Tryz.isAgg169
 z72 := Tryz.sizeOf169
 v72 := Tryz.zeroValue169
 t164 := Tryz.underlying318
 a164 := Tryz.isAgg318
 z164 := Tryz.sizeOf318
 v164 := Tryz.zeroValue318 }
def lays167_ren : Go.Shelf.Ren := ⟨fun | 166 => 64 | 167 => 66 | 240 => 130 | 276 => 189 | 169 => 67 | n => n, fun | 70 => 167 | 72 => 169 | 37 => 92 | 75 => 171 | 80 => 178 | 164 => 318 | 127 => 263 | n => n, fun | n => n⟩
theorem lays167 : Go.Proofs.Lays.n167 Tryz.prog lays167_ren := {
 mixed := by kernel_rfl
 f167 := Tryz.func66.trans (congrArg some (by kernel_rfl))
 f240 := Tryz.func130.trans (congrArg some (by kernel_rfl))
 f276 := Tryz.func189.trans (congrArg some (by kernel_rfl))
 t0 := Tryz.underlying0
 a0 := Tryz.isAgg0
 z0 := Tryz.sizeOf0
 v0 := Tryz.zeroValue0
 t4 := Tryz.underlying4
 a4 := Tryz.isAgg4
 z4 := Tryz.sizeOf4
 v4 := Tryz.zeroValue4
 t5 := Tryz.underlying5
 a5 := Tryz.isAgg5
 z5 := Tryz.sizeOf5
 v5 := Tryz.zeroValue5
 t9 := Tryz.underlying9
 a9 := Tryz.isAgg9
 z9 := Tryz.sizeOf9
 v9 := Tryz.zeroValue9
 t20 := Tryz.underlying20
 a20 := Tryz.isAgg20
 z20 := Tryz.sizeOf20
 v20 := Tryz.zeroValue20
 t37 := Tryz.underlying92
 a37 := Tryz.isAgg92
 z37 := Tryz.sizeOf92
 v37 := Tryz.zeroValue92
 t70 := Tryz.underlying167
 a70 := Tryz.isAgg167
 z70 := Tryz.sizeOf167
 v70 := Tryz.zeroValue167
 t72 := Tryz.underlying169
 a72 := Tryz.isAgg169
 z72 := Tryz.sizeOf169
 v72 := Tryz.zeroValue169
 t75 := Tryz.underlying171
 a75 := Tryz.isAgg171
 z75 := Tryz.sizeOf171
 v75 := Tryz.zeroValue171
 t164 := Tryz.underlying318
 a164 := Tryz.isAgg318
 z164 := Tryz.sizeOf318
 v164 := Tryz.zeroValue318 }
def lays166_ren : Go.Shelf.Ren := ⟨fun | 166 => 64 | 167 => 66 | 240 => 130 | 276 => 189 | 169 => 67 | n => n, fun | 70 => 167 | 72 => 169 | 37 => 92 | 75 => 171 | 80 => 178 | 164 => 318 | 127 => 263 | n => n, fun | n => n⟩
theorem lays166 : Go.Proofs.Lays.n166 Tryz.prog lays166_ren := {
 mixed := by kernel_rfl
 f166 := Tryz.func64.trans (congrArg some (by kernel_rfl))
 f240 := Tryz.func130.trans (congrArg some (by kernel_rfl))
 f276 := Tryz.func189.trans (congrArg some (by kernel_rfl))
 t0 := Tryz.underlying0
 a0 := Tryz.isAgg0
 z0 := Tryz.sizeOf0
 v0 := Tryz.zeroValue0
 t3 := Tryz.underlying3
 a3 := Tryz.isAgg3
 z3 := Tryz.sizeOf3
 v3 := Tryz.zeroValue3
 t4 := Tryz.underlying4
 a4 := Tryz.isAgg4
 z4 := Tryz.sizeOf4
 v4 := Tryz.zeroValue4
 t9 := Tryz.underlying9
 a9 := Tryz.isAgg9
 z9 := Tryz.sizeOf9
 v9 := Tryz.zeroValue9
 t20 := Tryz.underlying20
 a20 := Tryz.isAgg20
 z20 := Tryz.sizeOf20
 v20 := Tryz.zeroValue20
 t37 := Tryz.underlying92
 a37 := Tryz.isAgg92
 z37 := Tryz.sizeOf92
 v37 := Tryz.zeroValue92
 t70 := Tryz.underlying167
 a70 := Tryz.isAgg167
 z70 := Tryz.sizeOf167
 v70 := Tryz.zeroValue167
 t72 := Tryz.underlying169
 a72 := Tryz.isAgg169
 z72 := Tryz.sizeOf169
 v72 := Tryz.zeroValue169
 t75 := Tryz.underlying171
 a75 := Tryz.isAgg171
 z75 := Tryz.sizeOf171
 v75 := Tryz.zeroValue171
 t164 := Tryz.underlying318
 a164 := Tryz.isAgg318
 z164 := Tryz.sizeOf318
 v164 := Tryz.zeroValue318 }
def lays169_ren : Go.Shelf.Ren := ⟨fun | 166 => 64 | 167 => 66 | 240 => 130 | 276 => 189 | 169 => 67 | n => n, fun | 70 => 167 | 72 => 169 | 37 => 92 | 75 => 171 | 80 => 178 | 164 => 318 | 127 => 263 | n => n, fun | n => n⟩
theorem lays169 : Go.Proofs.Lays.n169 Tryz.prog lays169_ren := {
 mixed := by kernel_rfl
 f169 := Tryz.func67.trans (congrArg some (by kernel_rfl))
 t0 := Tryz.underlying0
 a0 := Tryz.isAgg0
 z0 := Tryz.sizeOf0
 v0 := Tryz.zeroValue0
 t3 := Tryz.underlying3
 a3 := Tryz.isAgg3
 z3 := Tryz.sizeOf3
 v3 := Tryz.zeroValue3
 t9 := Tryz.underlying9
 a9 := Tryz.isAgg9
 z9 := Tryz.sizeOf9
 v9 := Tryz.zeroValue9
 t37 := Tryz.underlying92
 a37 := Tryz.isAgg92
 z37 := Tryz.sizeOf92
 v37 := Tryz.zeroValue92
 t70 := Tryz.underlying167
 a70 := Tryz.isAgg167
 z70 := Tryz.sizeOf167
 v70 := Tryz.zeroValue167
 t72 := Tryz.underlying169
 a72 := Tryz.isAgg169
 z72 := Tryz.sizeOf169
 v72 := Tryz.zeroValue169
 t127 := Tryz.underlying263
 a127 := Tryz.isAgg263
 z127 := Tryz.sizeOf263
 v127 := Tryz.zeroValue263 }
theorem bX_240 : Go.Proofs.Builder.X72 Tryz.prog lays240_ren := {
 sizeBuilder := by kernel_rfl
 liesBuilder := by kernel_rfl }
theorem bX_167 : Go.Proofs.Builder.Extra Tryz.prog lays167_ren := {
 sizeBuilder := by kernel_rfl
 liesBuilder := by kernel_rfl
 t5 := Tryz.underlying5
 a5 := Tryz.isAgg5
 z5 := Tryz.sizeOf5
 v5 := Tryz.zeroValue5
 infoByte := by kernel_rfl
 cellsByte := by kernel_rfl
 sizeByte := by kernel_rfl
 neB5 := by decide }
theorem bX_166 : Go.Proofs.Builder.Extra Tryz.prog lays166_ren := {
 sizeBuilder := by kernel_rfl
 liesBuilder := by kernel_rfl
 t5 := Tryz.underlying5
 a5 := Tryz.isAgg5
 z5 := Tryz.sizeOf5
 v5 := Tryz.zeroValue5
 infoByte := by kernel_rfl
 cellsByte := by kernel_rfl
 sizeByte := by kernel_rfl
 neB5 := by decide }
theorem bX_169 : Go.Proofs.Builder.Extra Tryz.prog lays169_ren := {
 sizeBuilder := by kernel_rfl
 liesBuilder := by kernel_rfl
 t5 := Tryz.underlying5
 a5 := Tryz.isAgg5
 z5 := Tryz.sizeOf5
 v5 := Tryz.zeroValue5
 infoByte := by kernel_rfl
 cellsByte := by kernel_rfl
 sizeByte := by kernel_rfl
 neB5 := by decide }
end Sh
end Go.Proofs.YtdcgnfkkklbckaaGreatDoor
/- THE LIBRARY's CONTRACTS AT THIS PROGRAM: laid by the shelf's own programs (plain words). -/
set_option linter.unusedSimpArgs false
set_option linter.unusedVariables false
namespace Go.Proofs.YtdcgnfkkklbckaaGreatDoor
namespace Sh
open Go.Shelf
def laysM171_ren : Go.Shelf.Ren := ⟨fun | 171 => 65 | 243 => 131 | 246 => 190 | 283 => 235 | 284 => 236 | 285 => 237 | 286 => 238 | 129 => 269 | 317 => 281 | 318 => 282 | 319 => 283 | 320 => 284 | 337 => 317 | 338 => 318 | n => n, fun | 3 => 3 | 9 => 9 | 2 => 2 | 4 => 4 | 171 => 371 | 0 => 0 | 53 => 372 | 37 => 92 | 5 => 5 | 173 => 375 | 212 => 411 | 51 => 399 | 20 => 20 | 213 => 412 | 46 => 201 | 232 => 449 | 233 => 450 | n => n, fun | 17 => 3 | 18 => 7 | 19 => 8 | n => n⟩
theorem laysM171 : Go.Proofs.LaysM.n171 Tryz.prog laysM171_ren := {
 mixed := by kernel_rfl
 f129 := Tryz.func269.trans (congrArg some (by kernel_rfl))
 f171 := Tryz.func65.trans (congrArg some (by kernel_rfl))
 f243 := Tryz.func131.trans (congrArg some (by kernel_rfl))
 f246 := Tryz.func190.trans (congrArg some (by kernel_rfl))
 f283 := Tryz.func235.trans (congrArg some (by kernel_rfl))
 f284 := Tryz.func236.trans (congrArg some (by kernel_rfl))
 f285 := Tryz.func237.trans (congrArg some (by kernel_rfl))
 f286 := Tryz.func238.trans (congrArg some (by kernel_rfl))
 f317 := Tryz.func281.trans (congrArg some (by kernel_rfl))
 f318 := Tryz.func282.trans (congrArg some (by kernel_rfl))
 f319 := Tryz.func283.trans (congrArg some (by kernel_rfl))
 f320 := Tryz.func284.trans (congrArg some (by kernel_rfl))
 f337 := Tryz.func317.trans (congrArg some (by kernel_rfl))
 f338 := Tryz.func318.trans (congrArg some (by kernel_rfl))
 t0 := Tryz.underlying0
 a0 := Tryz.isAgg0
 z0 := Tryz.sizeOf0
 v0 := Tryz.zeroValue0
 t2 := Tryz.underlying2
 a2 := Tryz.isAgg2
 z2 := Tryz.sizeOf2
 v2 := Tryz.zeroValue2
 t3 := Tryz.underlying3
 a3 := Tryz.isAgg3
 z3 := Tryz.sizeOf3
 v3 := Tryz.zeroValue3
 t4 := Tryz.underlying4
 a4 := Tryz.isAgg4
 z4 := Tryz.sizeOf4
 v4 := Tryz.zeroValue4
 t5 := Tryz.underlying5
 a5 := Tryz.isAgg5
 z5 := Tryz.sizeOf5
 v5 := Tryz.zeroValue5
 t9 := Tryz.underlying9
 a9 := Tryz.isAgg9
 z9 := Tryz.sizeOf9
 v9 := Tryz.zeroValue9
 t20 := Tryz.underlying20
 a20 := Tryz.isAgg20
 z20 := Tryz.sizeOf20
 v20 := Tryz.zeroValue20
 t37 := Tryz.underlying92
 a37 := Tryz.isAgg92
 z37 := Tryz.sizeOf92
 v37 := Tryz.zeroValue92
 t46 := Tryz.underlying201
 a46 := Tryz.isAgg201
 z46 := Tryz.sizeOf201
 v46 := Tryz.zeroValue201
 t51 := Tryz.underlying399
 a51 := Tryz.isAgg399
 z51 := Tryz.sizeOf399
 v51 := Tryz.zeroValue399
 t53 := Tryz.underlying372
 a53 := Tryz.isAgg372
 z53 := Tryz.sizeOf372
 v53 := Tryz.zeroValue372
 t171 := Tryz.underlying371
 a171 := Tryz.isAgg371
 z171 := Tryz.sizeOf371
 v171 := Tryz.zeroValue371
 t173 := Tryz.underlying375
 a173 := Tryz.isAgg375
 z173 := Tryz.sizeOf375
 v173 := Tryz.zeroValue375
 t212 := Tryz.underlying411
 a212 := Tryz.isAgg411
 z212 := Tryz.sizeOf411
 v212 := Tryz.zeroValue411
 t213 := Tryz.underlying412
 a213 := Tryz.isAgg412
 z213 := Tryz.sizeOf412
 t232 := Tryz.underlying449
 a232 := Tryz.isAgg449
 z232 := Tryz.sizeOf449
 v232 := Tryz.zeroValue449
 t233 := Tryz.underlying450
 a233 := Tryz.isAgg450
 z233 := Tryz.sizeOf450
 v233 := Tryz.zeroValue450
 g17 := by kernel_rfl
 g18 := by kernel_rfl
 g19 := by kernel_rfl
 i0 := by kernel_rfl
 i2 := by kernel_rfl
 i3 := by kernel_rfl
 i4 := by kernel_rfl
 i5 := by kernel_rfl
 i9 := by kernel_rfl
 i20 := by kernel_rfl
 i37 := by kernel_rfl
 i46 := by kernel_rfl
 i51 := by kernel_rfl
 i53 := by kernel_rfl
 i171 := by kernel_rfl
 i173 := by kernel_rfl
 i212 := by kernel_rfl
 i232 := by kernel_rfl
 i233 := by kernel_rfl
 m17 := by kernel_rfl
 m18 := by kernel_rfl
 m19 := by kernel_rfl }
def lays146_ren : Go.Shelf.Ren := ⟨fun | 146 => 132 | 221 => 191 | 268 => 239 | 138 => 240 | 143 => 241 | 195 => 285 | 197 => 286 | 218 => 287 | 219 => 288 | 260 => 319 | 217 => 320 | 225 => 321 | 224 => 322 | 267 => 323 | 266 => 335 | 314 => 336 | n => n, fun | 9 => 9 | 31 => 181 | 3 => 3 | 4 => 4 | 0 => 0 | 105 => 414 | 21 => 21 | 5 => 5 | 46 => 201 | 119 => 451 | 139 => 454 | 138 => 453 | 146 => 455 | 51 => 399 | n => n, fun | 1 => 4 | 3 => 9 | 4 => 10 | n => n⟩
theorem lays146 : Go.Proofs.Lays.n146 Tryz.prog lays146_ren := {
 mixed := by kernel_rfl
 f138 := Tryz.func240.trans (congrArg some (by kernel_rfl))
 f143 := Tryz.func241.trans (congrArg some (by kernel_rfl))
 f146 := Tryz.func132.trans (congrArg some (by kernel_rfl))
 f195 := Tryz.func285.trans (congrArg some (by kernel_rfl))
 f197 := Tryz.func286.trans (congrArg some (by kernel_rfl))
 f217 := Tryz.func320.trans (congrArg some (by kernel_rfl))
 f218 := Tryz.func287.trans (congrArg some (by kernel_rfl))
 f219 := Tryz.func288.trans (congrArg some (by kernel_rfl))
 f221 := Tryz.func191.trans (congrArg some (by kernel_rfl))
 f224 := Tryz.func322.trans (congrArg some (by kernel_rfl))
 f225 := Tryz.func321.trans (congrArg some (by kernel_rfl))
 f260 := Tryz.func319.trans (congrArg some (by kernel_rfl))
 f266 := Tryz.func335.trans (congrArg some (by kernel_rfl))
 f267 := Tryz.func323.trans (congrArg some (by kernel_rfl))
 f268 := Tryz.func239.trans (congrArg some (by kernel_rfl))
 f314 := Tryz.func336.trans (congrArg some (by kernel_rfl))
 t0 := Tryz.underlying0
 a0 := Tryz.isAgg0
 z0 := Tryz.sizeOf0
 v0 := Tryz.zeroValue0
 t3 := Tryz.underlying3
 a3 := Tryz.isAgg3
 z3 := Tryz.sizeOf3
 v3 := Tryz.zeroValue3
 t4 := Tryz.underlying4
 a4 := Tryz.isAgg4
 z4 := Tryz.sizeOf4
 v4 := Tryz.zeroValue4
 t5 := Tryz.underlying5
 a5 := Tryz.isAgg5
 z5 := Tryz.sizeOf5
 v5 := Tryz.zeroValue5
 t9 := Tryz.underlying9
 a9 := Tryz.isAgg9
 z9 := Tryz.sizeOf9
 v9 := Tryz.zeroValue9
 t21 := Tryz.underlying21
 a21 := Tryz.isAgg21
 z21 := Tryz.sizeOf21
 v21 := Tryz.zeroValue21
 t31 := Tryz.underlying181
 a31 := Tryz.isAgg181
 z31 := Tryz.sizeOf181
 v31 := Tryz.zeroValue181
 t46 := Tryz.underlying201
 a46 := Tryz.isAgg201
 z46 := Tryz.sizeOf201
 v46 := Tryz.zeroValue201
 t51 := Tryz.underlying399
 a51 := Tryz.isAgg399
 z51 := Tryz.sizeOf399
 v51 := Tryz.zeroValue399
 t105 := Tryz.underlying414
 a105 := Tryz.isAgg414
 z105 := Tryz.sizeOf414
 v105 := Tryz.zeroValue414
 t119 := Tryz.underlying451
 a119 := Tryz.isAgg451
 z119 := Tryz.sizeOf451
 t138 := Tryz.underlying453
 a138 := Tryz.isAgg453
 z138 := Tryz.sizeOf453
 v138 := Tryz.zeroValue453
 t139 := Tryz.underlying454
 a139 := Tryz.isAgg454
 z139 := Tryz.sizeOf454
 v139 := Tryz.zeroValue454
 t146 := Tryz.underlying455
 a146 := Tryz.isAgg455
 z146 := Tryz.sizeOf455
 v146 := Tryz.zeroValue455
 g1 := by kernel_rfl
 g3 := by kernel_rfl
 g4 := by kernel_rfl }
def lays229_ren : Go.Shelf.Ren := ⟨fun | 229 => 149 | n => n, fun | 9 => 9 | 40 => 282 | 31 => 181 | 152 => 329 | 3 => 3 | 0 => 0 | 4 => 4 | 21 => 21 | 154 => 331 | n => n, fun | n => n⟩
theorem lays229 : Go.Proofs.Lays.n229 Tryz.prog lays229_ren := {
 mixed := by kernel_rfl
 f229 := Tryz.func149.trans (congrArg some (by kernel_rfl))
 t0 := Tryz.underlying0
 a0 := Tryz.isAgg0
 z0 := Tryz.sizeOf0
 v0 := Tryz.zeroValue0
 t3 := Tryz.underlying3
 a3 := Tryz.isAgg3
 z3 := Tryz.sizeOf3
 v3 := Tryz.zeroValue3
 t4 := Tryz.underlying4
 a4 := Tryz.isAgg4
 z4 := Tryz.sizeOf4
 v4 := Tryz.zeroValue4
 t9 := Tryz.underlying9
 a9 := Tryz.isAgg9
 z9 := Tryz.sizeOf9
 v9 := Tryz.zeroValue9
 t21 := Tryz.underlying21
 a21 := Tryz.isAgg21
 z21 := Tryz.sizeOf21
 v21 := Tryz.zeroValue21
 t31 := Tryz.underlying181
 a31 := Tryz.isAgg181
 z31 := Tryz.sizeOf181
 v31 := Tryz.zeroValue181
 t40 := Tryz.underlying282
 a40 := Tryz.isAgg282
 z40 := Tryz.sizeOf282
 v40 := Tryz.zeroValue282
 t152 := Tryz.underlying329
 a152 := Tryz.isAgg329
 z152 := Tryz.sizeOf329
 v152 := Tryz.zeroValue329
 t154 := Tryz.underlying331
 a154 := Tryz.isAgg331
 z154 := Tryz.sizeOf331
 v154 := Tryz.zeroValue331 }
def lays160_ren : Go.Shelf.Ren := ⟨fun | 160 => 193 | 232 => 243 | 231 => 242 | 227 => 244 | 234 => 246 | 233 => 245 | 236 => 248 | 235 => 247 | 228 => 289 | 271 => 291 | 151 => 290 | 197 => 286 | 120 => 325 | 152 => 324 | 260 => 319 | 137 => 337 | 119 => 338 | 224 => 322 | 225 => 321 | 217 => 320 | 266 => 335 | n => n, fun | 9 => 9 | 4 => 4 | 3 => 3 | 5 => 5 | 117 => 382 | 116 => 381 | 0 => 0 | 124 => 385 | 21 => 21 | 105 => 414 | 46 => 201 | 119 => 451 | 139 => 454 | 138 => 453 | n => n, fun | 3 => 9 | 4 => 10 | n => n⟩
theorem lays160 : Go.Proofs.Lays.n160 Tryz.prog lays160_ren := {
 mixed := by kernel_rfl
 f119 := Tryz.func338.trans (congrArg some (by kernel_rfl))
 f120 := Tryz.func325.trans (congrArg some (by kernel_rfl))
 f137 := Tryz.func337.trans (congrArg some (by kernel_rfl))
 f151 := Tryz.func290.trans (congrArg some (by kernel_rfl))
 f152 := Tryz.func324.trans (congrArg some (by kernel_rfl))
 f160 := Tryz.func193.trans (congrArg some (by kernel_rfl))
 f197 := Tryz.func286.trans (congrArg some (by kernel_rfl))
 f217 := Tryz.func320.trans (congrArg some (by kernel_rfl))
 f224 := Tryz.func322.trans (congrArg some (by kernel_rfl))
 f225 := Tryz.func321.trans (congrArg some (by kernel_rfl))
 f227 := Tryz.func244.trans (congrArg some (by kernel_rfl))
 f228 := Tryz.func289.trans (congrArg some (by kernel_rfl))
 f231 := Tryz.func242.trans (congrArg some (by kernel_rfl))
 f232 := Tryz.func243.trans (congrArg some (by kernel_rfl))
 f233 := Tryz.func245.trans (congrArg some (by kernel_rfl))
 f234 := Tryz.func246.trans (congrArg some (by kernel_rfl))
 f235 := Tryz.func247.trans (congrArg some (by kernel_rfl))
 f236 := Tryz.func248.trans (congrArg some (by kernel_rfl))
 f260 := Tryz.func319.trans (congrArg some (by kernel_rfl))
 f266 := Tryz.func335.trans (congrArg some (by kernel_rfl))
 f271 := Tryz.func291.trans (congrArg some (by kernel_rfl))
 t0 := Tryz.underlying0
 a0 := Tryz.isAgg0
 z0 := Tryz.sizeOf0
 v0 := Tryz.zeroValue0
 t3 := Tryz.underlying3
 a3 := Tryz.isAgg3
 z3 := Tryz.sizeOf3
 v3 := Tryz.zeroValue3
 t4 := Tryz.underlying4
 a4 := Tryz.isAgg4
 z4 := Tryz.sizeOf4
 v4 := Tryz.zeroValue4
 t5 := Tryz.underlying5
 a5 := Tryz.isAgg5
 z5 := Tryz.sizeOf5
 v5 := Tryz.zeroValue5
 t9 := Tryz.underlying9
 a9 := Tryz.isAgg9
 z9 := Tryz.sizeOf9
 v9 := Tryz.zeroValue9
 t21 := Tryz.underlying21
 a21 := Tryz.isAgg21
 z21 := Tryz.sizeOf21
 v21 := Tryz.zeroValue21
 t46 := Tryz.underlying201
 a46 := Tryz.isAgg201
 z46 := Tryz.sizeOf201
 v46 := Tryz.zeroValue201
 t105 := Tryz.underlying414
 a105 := Tryz.isAgg414
 z105 := Tryz.sizeOf414
 v105 := Tryz.zeroValue414
 t116 := Tryz.underlying381
 a116 := Tryz.isAgg381
 z116 := Tryz.sizeOf381
 t117 := Tryz.underlying382
 a117 := Tryz.isAgg382
 z117 := Tryz.sizeOf382
 v117 := Tryz.zeroValue382
 t119 := Tryz.underlying451
 a119 := Tryz.isAgg451
 z119 := Tryz.sizeOf451
 t124 := Tryz.underlying385
 a124 := Tryz.isAgg385
 z124 := Tryz.sizeOf385
 v124 := Tryz.zeroValue385
 t138 := Tryz.underlying453
 a138 := Tryz.isAgg453
 z138 := Tryz.sizeOf453
 v138 := Tryz.zeroValue453
 t139 := Tryz.underlying454
 a139 := Tryz.isAgg454
 z139 := Tryz.sizeOf454
 v139 := Tryz.zeroValue454
 g3 := by kernel_rfl
 g4 := by kernel_rfl }
def lays172_ren : Go.Shelf.Ren := ⟨fun | 172 => 194 | 244 => 249 | 245 => 250 | 247 => 292 | 279 => 293 | 280 => 294 | 281 => 295 | 282 => 296 | 287 => 326 | 316 => 327 | 171 => 65 | 205 => 328 | 321 => 339 | 322 => 340 | 243 => 131 | 246 => 190 | 283 => 235 | 284 => 236 | 285 => 237 | 286 => 238 | 129 => 269 | 317 => 281 | 318 => 282 | 319 => 283 | 320 => 284 | 337 => 317 | 338 => 318 | n => n, fun | 9 => 9 | 3 => 3 | 75 => 171 | 76 => 172 | 4 => 4 | 5 => 5 | 167 => 419 | 37 => 92 | 0 => 0 | 85 => 420 | 2 => 2 | 168 => 422 | 53 => 372 | 175 => 438 | 46 => 201 | 210 => 442 | 127 => 263 | 145 => 461 | 143 => 459 | 21 => 21 | 171 => 371 | 173 => 375 | 212 => 411 | 51 => 399 | 20 => 20 | 213 => 412 | 232 => 449 | 233 => 450 | 80 => 178 | n => n, fun | 15 => 5 | 16 => 6 | 17 => 3 | 18 => 7 | 19 => 8 | n => n⟩
theorem lays172 : Go.Proofs.Lays.n172 Tryz.prog lays172_ren := {
 mixed := by kernel_rfl
 f129 := Tryz.func269.trans (congrArg some (by kernel_rfl))
 f171 := Tryz.func65.trans (congrArg some (by kernel_rfl))
 f172 := Tryz.func194.trans (congrArg some (by kernel_rfl))
 f205 := Tryz.func328.trans (congrArg some (by kernel_rfl))
 f243 := Tryz.func131.trans (congrArg some (by kernel_rfl))
 f244 := Tryz.func249.trans (congrArg some (by kernel_rfl))
 f245 := Tryz.func250.trans (congrArg some (by kernel_rfl))
 f246 := Tryz.func190.trans (congrArg some (by kernel_rfl))
 f247 := Tryz.func292.trans (congrArg some (by kernel_rfl))
 f279 := Tryz.func293.trans (congrArg some (by kernel_rfl))
 f280 := Tryz.func294.trans (congrArg some (by kernel_rfl))
 f281 := Tryz.func295.trans (congrArg some (by kernel_rfl))
 f282 := Tryz.func296.trans (congrArg some (by kernel_rfl))
 f283 := Tryz.func235.trans (congrArg some (by kernel_rfl))
 f284 := Tryz.func236.trans (congrArg some (by kernel_rfl))
 f285 := Tryz.func237.trans (congrArg some (by kernel_rfl))
 f286 := Tryz.func238.trans (congrArg some (by kernel_rfl))
 f287 := Tryz.func326.trans (congrArg some (by kernel_rfl))
 f316 := Tryz.func327.trans (congrArg some (by kernel_rfl))
 f317 := Tryz.func281.trans (congrArg some (by kernel_rfl))
 f318 := Tryz.func282.trans (congrArg some (by kernel_rfl))
 f319 := Tryz.func283.trans (congrArg some (by kernel_rfl))
 f320 := Tryz.func284.trans (congrArg some (by kernel_rfl))
 f321 := Tryz.func339.trans (congrArg some (by kernel_rfl))
 f322 := Tryz.func340.trans (congrArg some (by kernel_rfl))
 f337 := Tryz.func317.trans (congrArg some (by kernel_rfl))
 f338 := Tryz.func318.trans (congrArg some (by kernel_rfl))
 t0 := Tryz.underlying0
 a0 := Tryz.isAgg0
 z0 := Tryz.sizeOf0
 v0 := Tryz.zeroValue0
 t2 := Tryz.underlying2
 a2 := Tryz.isAgg2
 z2 := Tryz.sizeOf2
 v2 := Tryz.zeroValue2
 t3 := Tryz.underlying3
 a3 := Tryz.isAgg3
 z3 := Tryz.sizeOf3
 v3 := Tryz.zeroValue3
 t4 := Tryz.underlying4
 a4 := Tryz.isAgg4
 z4 := Tryz.sizeOf4
 v4 := Tryz.zeroValue4
 t5 := Tryz.underlying5
 a5 := Tryz.isAgg5
 z5 := Tryz.sizeOf5
 v5 := Tryz.zeroValue5
 t9 := Tryz.underlying9
 a9 := Tryz.isAgg9
 z9 := Tryz.sizeOf9
 v9 := Tryz.zeroValue9
 t20 := Tryz.underlying20
 a20 := Tryz.isAgg20
 z20 := Tryz.sizeOf20
 v20 := Tryz.zeroValue20
 t21 := Tryz.underlying21
 a21 := Tryz.isAgg21
 z21 := Tryz.sizeOf21
 v21 := Tryz.zeroValue21
 t37 := Tryz.underlying92
 a37 := Tryz.isAgg92
 z37 := Tryz.sizeOf92
 v37 := Tryz.zeroValue92
 t46 := Tryz.underlying201
 a46 := Tryz.isAgg201
 z46 := Tryz.sizeOf201
 v46 := Tryz.zeroValue201
 t51 := Tryz.underlying399
 a51 := Tryz.isAgg399
 z51 := Tryz.sizeOf399
 v51 := Tryz.zeroValue399
 t53 := Tryz.underlying372
 a53 := Tryz.isAgg372
 z53 := Tryz.sizeOf372
 v53 := Tryz.zeroValue372
 t75 := Tryz.underlying171
 a75 := Tryz.isAgg171
 z75 := Tryz.sizeOf171
 v75 := Tryz.zeroValue171
 t76 := Tryz.underlying172
 a76 := Tryz.isAgg172
 z76 := Tryz.sizeOf172
 v76 := Tryz.zeroValue172
 t85 := Tryz.underlying420
 a85 := Tryz.isAgg420
 z85 := Tryz.sizeOf420
 v85 := Tryz.zeroValue420
 t127 := Tryz.underlying263
 a127 := Tryz.isAgg263
 z127 := Tryz.sizeOf263
 v127 := Tryz.zeroValue263
 t143 := Tryz.underlying459
 a143 := Tryz.isAgg459
 z143 := Tryz.sizeOf459
 v143 := Tryz.zeroValue459
 t145 := Tryz.underlying461
 a145 := Tryz.isAgg461
 z145 := Tryz.sizeOf461
 v145 := Tryz.zeroValue461
 t167 := Tryz.underlying419
 a167 := Tryz.isAgg419
 z167 := Tryz.sizeOf419
 v167 := Tryz.zeroValue419
 t168 := Tryz.underlying422
 a168 := Tryz.isAgg422
 z168 := Tryz.sizeOf422
 v168 := Tryz.zeroValue422
 t171 := Tryz.underlying371
 a171 := Tryz.isAgg371
 z171 := Tryz.sizeOf371
 v171 := Tryz.zeroValue371
 t173 := Tryz.underlying375
 a173 := Tryz.isAgg375
 z173 := Tryz.sizeOf375
 v173 := Tryz.zeroValue375
 t175 := Tryz.underlying438
 a175 := Tryz.isAgg438
 z175 := Tryz.sizeOf438
 v175 := Tryz.zeroValue438
 t210 := Tryz.underlying442
 a210 := Tryz.isAgg442
 z210 := Tryz.sizeOf442
 v210 := Tryz.zeroValue442
 t212 := Tryz.underlying411
 a212 := Tryz.isAgg411
 z212 := Tryz.sizeOf411
 v212 := Tryz.zeroValue411
 t213 := Tryz.underlying412
 a213 := Tryz.isAgg412
 z213 := Tryz.sizeOf412
 t232 := Tryz.underlying449
 a232 := Tryz.isAgg449
 z232 := Tryz.sizeOf449
 v232 := Tryz.zeroValue449
 t233 := Tryz.underlying450
 a233 := Tryz.isAgg450
 z233 := Tryz.sizeOf450
 v233 := Tryz.zeroValue450
 g15 := by kernel_rfl
 g16 := by kernel_rfl
 g17 := by kernel_rfl
 g18 := by kernel_rfl
 g19 := by kernel_rfl }
open Go.RowKit Go.Sort Go.Lib in
theorem strconv_Itoa (n : Int) (h0 : -9223372036854775808 ≤ n) (h1 : n ≤ 9223372036854775807) (w : World) (htab : Lib.TabIs Tryz.prog w "internal/strconv.uint64pow10" .u64 Lib.pow10Tab) :
  Calls Tryz.prog 65 #[.int .i64 n] w fun e w' => e = .returned (.string ⟨(Lib.itoa n).toArray⟩) ∧ ∃ k os, w' = grow (w.drewN k) os := Any.strconv_Itoa laysM171 n h0 h1 w htab
open Go.RowKit Go.Lib in
theorem strings_Split (s sep : ByteArray) (m : Int) (w : World) (hs : s.size < 4294967281) (hm : w.cell? ⟨4, 0, none⟩ = some (.int .i64 m)) (h1 : 1 ≤ sep.size) :
  Calls Tryz.prog 132 #[.string s, .string sep] w fun e w' =>
   e = .returned (.slice (some ⟨w.heap.size, 0, none⟩) (Lib.countB s sep + 1) (Lib.countB s sep + 1)) ∧ w' = w.alloc (.cells ((Lib.splitB sep 0 (Lib.countB s sep) s).map Value.string).toArray 9) := Any.strings_Split lays146 (by kernel_rfl) s sep m w hs hm h1
open Go.RowKit Go.Lib in
theorem strings_FieldsFunc (g : Nat) (lb : Array Value) (eg : ∀ args w, (callFunc g args).run Tryz.prog w = .ok (.enter g args) w) (p : Nat → Bool) (s : ByteArray) (w : World) (hs : s.size ≤ 4294967296) (hp : PredAt Tryz.prog g lb encR p w) :
  Calls Tryz.prog 149 #[.string s, .func (.func g) #[] lb] w fun e w' => ∃ A, e = .returned (.slice (some ⟨A, 0, none⟩) (Lib.goFieldsP p s).length (Lib.goFieldsP p s).length) ∧ w.heap.size ≤ A ∧
   w'.ownsRow w.heap.size 9 1 (.slice (some ⟨A, 0, none⟩) (Lib.goFieldsP p s).length (Lib.goFieldsP p s).length) (Lib.goFieldsP p s).length ((Lib.goFieldsP p s).map Value.string) ∧ Below w.heap.size w w' := Any.strings_FieldsFunc lays229 g lb eg p s w hs hp (by kernel_rfl) (by kernel_rfl)
open Go.RowKit in
theorem strconv_Atoi (s : ByteArray) (n : Int) (hl : s.size ≤ 18) (h : Lib.atoi s.data.toList = some n) (w : World) :
  Calls Tryz.prog 194 #[.string s] w fun e w' => e = .returned (.tuple #[.int .i64 n, .nilIface]) ∧ ∃ t, w' = Lib.bytesWorld w 5 t := Any.strconv_Atoi lays172 s n hl h w
end Sh
end Go.Proofs.YtdcgnfkkklbckaaGreatDoor
/- LAW 13: the library's functions on texts, as pure calls. -/
set_option linter.unusedSimpArgs false
set_option linter.unusedVariables false
namespace Go.Proofs.YtdcgnfkkklbckaaGreatDoor
namespace Pv
open Go.RowKit
theorem args_nil (X : Cx) (γ : Gh) (w : World) (vals : List Value) (h : RepL X γ w [] vals) : vals = [] := h.nil_inv
theorem args_str (s : List UInt8) (X : Cx) (γ : Gh) (w : World) (vals : List Value) (h : RepL X γ w [.str s] vals) : vals = [strV s] := by
 obtain ⟨v, us, rfl, hv, hus⟩ := h.cons_inv
 rw [hv.str_inv, hus.nil_inv]; rfl
theorem args_str2 (s t : List UInt8) (X : Cx) (γ : Gh) (w : World) (vals : List Value) (h : RepL X γ w [.str s, .str t] vals) : vals = [strV s, strV t] := by
 obtain ⟨v, us, rfl, hv, hus⟩ := h.cons_inv
 rw [hv.str_inv, args_str t X γ w us hus]; rfl
theorem args_int (k : IntKind) (n : Int) (X : Cx) (γ : Gh) (w : World) (vals : List Value) (h : RepL X γ w [.int k n] vals) : vals = [.int k n] := by
 obtain ⟨v, us, rfl, hv, hus⟩ := h.cons_inv
 rw [hv.int_inv, hus.nil_inv]
theorem rep_raw (X : Cx) (γ : Gh) (w : World) : Rep X γ w (.raw .nilIface) .nilIface := .raw _ rfl
theorem rep_tup1 (n : Int) (X : Cx) (γ : Gh) (w : World) : Rep X γ w (.tup [.int .i64 n, .raw .nilIface]) (.tuple #[.int .i64 n, .nilIface]) := by
 refine .tup _ [.int .i64 n, .nilIface] rfl fun k c u hc hu => ?_
 match k, hc, hu with
 | 0, hc, hu => injection hc with hc; injection hu with hu; subst hc; subst hu; exact .int _ _
 | 1, hc, hu => injection hc with hc; injection hu with hu; subst hc; subst hu; exact .raw _ rfl
 | k + 2, hc, hu => simp at hc
theorem call64 (s x : List UInt8) (h : s.length + x.length ≤ 140737488355328) : PureCall Tryz.prog 64 [.pt 0 0 0, .str x] [.bld 169 5 s] ⟨.tup [.int .i64 x.length, .raw .nilIface], [.bld 169 5 (s ++ x)], []⟩ :=
 pure_bld ⟨_, Tryz.func64, rfl, rfl⟩ (args_str x) (rep_tup1 x.length) fun w b p v hp hH =>
  (held_string Sh.lays166 Sh.bX_166 hp hH x h).mono fun ev w' ⟨he, v', h1, h2, h3⟩ => ⟨he, self b, v', .inr rfl, h1, h2, h3⟩
theorem call67 (s : List UInt8) (h : s ≠ []) : PureCall Tryz.prog 67 [.pt 0 0 0] [.bld 169 5 s] ⟨.str s, [.bld 169 5 s], []⟩ :=
 pure_bld ⟨_, Tryz.func67, rfl, rfl⟩ args_nil (fun _ _ _ => .str s) fun w b p v hp hH =>
  (held_text Sh.lays169 Sh.bX_169 hH h).mono fun ev w' ⟨he, h1, h2⟩ => ⟨he, p, v, hp, h1, h2, fun g hg => .inl hg⟩
theorem call66 (s : List UInt8) (c : UInt8) (h : s.length + 1 ≤ 140737488355328) : PureCall Tryz.prog 66 [.pt 0 0 0, .int .u8 c.toNat] [.bld 169 5 s] ⟨.raw .nilIface, [.bld 169 5 (s ++ [c])], []⟩ :=
 pure_bld ⟨_, Tryz.func66, rfl, rfl⟩ (args_int .u8 c.toNat) rep_raw fun w b p v hp hH =>
  (held_byte Sh.lays167 Sh.bX_167 hp hH c h).mono fun ev w' ⟨he, v', h1, h2, h3⟩ => ⟨he, self b, v', .inr rfl, h1, h2, h3⟩
theorem keeps_grow (w : World) (k : Nat) (os : Array Obj) : Keeps (fun _ => False) w (Sort.grow (w.drewN k) os) :=
 ⟨rfl, rfl, rfl, by simp [Sort.grow], fun b hb _ => by simp [Sort.grow, Array.getElem?_append, hb]⟩
theorem keeps_drewN (w : World) (k : Nat) : Keeps (fun _ => False) w (w.drewN k) := ⟨rfl, rfl, rfl, Nat.le_refl _, fun b hb _ => rfl⟩
theorem pow_tab {w : World} (hg : ∀ b p, Pv.glob b = some p → ∃ o, w.heap[b]? = some o ∧ p o) : Lib.TabIs Tryz.prog w "internal/strconv.uint64pow10" .u64 Lib.pow10Tab := by
 obtain ⟨o, ho, T, fz, rfl⟩ := hg 3 isPow10 rfl
 unfold Lib.TabIs World.var?
 rw [show Tryz.prog.globalNamed "internal/strconv.uint64pow10" = some 3 from by kernel_rfl]
 simp [ho]
theorem some_int {w : World} (hg : ∀ b p, Pv.glob b = some p → ∃ o, w.heap[b]? = some o ∧ p o) : ∃ m, w.cell? ⟨4, 0, none⟩ = some (.int .i64 m) := by
 obtain ⟨o, ho, cs, T, fz, m, rfl, hm⟩ := hg 4 someInt rfl
 exact ⟨m, by rw [Lib.cell_of_heap ho]; exact hm⟩
theorem call65 (n : Int) (h0 : -9223372036854775808 ≤ n) (h1 : n ≤ 9223372036854775807) : PureCall Tryz.prog 65 [.int .i64 n] [] ⟨.str (Lib.itoa n), [], []⟩ :=
 pure_still ⟨_, Tryz.func65, rfl, rfl⟩ (args_int .i64 n) (fun _ _ _ => .str _) fun w hg =>
  (Sh.strconv_Itoa n h0 h1 w (pow_tab hg)).mono fun ev w' ⟨he, k, os, hw⟩ => ⟨he, by rw [hw]; exact keeps_grow w k os⟩
theorem splitB_C (s : List UInt8) (c : UInt8) : (Lib.splitB ⟨#[c]⟩ 0 (Lib.countB ⟨s.toArray⟩ ⟨#[c]⟩) ⟨s.toArray⟩).map Value.string = (splitC c s).map strV := by
 have h := Lib.splitB_data ⟨#[c]⟩ 0 (Lib.countB ⟨s.toArray⟩ ⟨#[c]⟩) ⟨s.toArray⟩
 have h2 : Lib.splitK [c] 0 (Lib.count s [c]) s = splitC c s := splitK_C c s
 have h3 : (Lib.splitB ⟨#[c]⟩ 0 (Lib.countB ⟨s.toArray⟩ ⟨#[c]⟩) ⟨s.toArray⟩).map (·.data.toList) = splitC c s := h.trans h2
 rw [← h3, List.map_map]
 exact List.map_congr_left fun x _ => by
  show Value.string x = Value.string ⟨x.data.toList.toArray⟩
  simp
theorem call132 (s : List UInt8) (c : UInt8) (h : s.length < 4294967281) : PureCall Tryz.prog 132 [.str s, .str [c]] [] ⟨.os 1000000000, [], [.row 0 9 1 (splitC c s).length (fl eStr (splitC c s))]⟩ := by
 have h1 : 1 ≤ (⟨#[c]⟩ : ByteArray).size := Nat.le_refl 1
 have hN : Lib.countB ⟨s.toArray⟩ ⟨#[c]⟩ + 1 = (splitC c s).length := by
  rw [← Lib.splitB_all ⟨#[c]⟩ h1 0 _ ⟨s.toArray⟩ rfl, ← List.length_map (f := Value.string), splitB_C, List.length_map]
 refine pure_new2 (vs := (splitC c s).map strV) ⟨_, Tryz.func132, rfl, rfl⟩ (args_str2 s [c]) (fun X γ w => strs_rows (splitC c s)) fun w hg => ?_
 obtain ⟨m, hm⟩ := some_int hg
 refine (Sh.strings_Split ⟨s.toArray⟩ ⟨#[c]⟩ m w (by show s.toArray.size < _; rw [List.size_toArray]; exact h) hm h1).mono ?_
 rintro ev w' ⟨he, hw⟩
 rw [splitB_C] at hw
 rw [hN] at he
 have hle := (splitC_len c s).1
 have hnew : w'.heap[w.heap.size]? = some (.cells ((splitC c s).map strV).toArray 9 (0, 0)) := by
  rw [hw]
  show (w.heap.push _)[w.heap.size]? = _
  simp
 refine ⟨_, he, ⟨by simp, .inr ⟨w.heap.size, _, _, rfl, Nat.le_refl _, hnew, Nat.le_refl _, by unfold maxLen; omega, by simp, by simp only [Nat.mul_one]; exact List.take_of_length_le (by simp)⟩⟩, by rw [hw]; exact Keeps.alloc _ _ _⟩
open Go.Shelf Go.Lib in
theorem is_blank (w : World) : PredAt Tryz.prog 192 #[] encR (fun r => decide ((r : Int) = 32 ∨ (r : Int) = 10)) w := fun W r _ => by
 unfold FnGives
 go_enter Tryz.func192, Tryz.ntmps192
 go_wp2
 all_goals (go_ret)
 ·rename_i h
  exact ⟨by simp [h], 0, rfl⟩
 ·rename_i h
  refine ⟨?_, 0, rfl⟩
  have e : ((r : Int) == 32 || (r : Int) == 10) = decide ((r : Int) = 32 ∨ (r : Int) = 10) := by
   rw [Bool.decide_or]; rfl
  rw [← e]
  rfl
open Go.Shelf Go.Lib in
theorem call149 (s : List UInt8) (h : s.length ≤ 65536) : PureCall Tryz.prog 149 [.str s, .fn (.func 192) [] []] [] ⟨.os 1000000000, [], [.row 0 9 1 (wordsB isBl s).length (fl eStr (wordsB isBl s))]⟩ := by
 have hw : (Lib.goFieldsP (fun r => decide ((r : Int) = 32 ∨ (r : Int) = 10)) ⟨s.toArray⟩).map Value.string = (wordsB isBl s).map strV := by
  rw [← fields_words s, List.map_map]
  exact List.map_congr_left fun x _ => by
   show Value.string x = Value.string ⟨x.data.toList.toArray⟩
   simp
 have hl : (Lib.goFieldsP (fun r => decide ((r : Int) = 32 ∨ (r : Int) = 10)) ⟨s.toArray⟩).length = (wordsB isBl s).length := by
  have := congrArg List.length hw
  simpa using this
 refine pure_new2 (us := [strV s, .func (.func 192) #[] #[]]) (vs := (wordsB isBl s).map strV) ⟨_, Tryz.func149, rfl, rfl⟩ (fun X γ w vals h => ?_) (fun X γ w => strs_rows (wordsB isBl s)) fun w hg => ?_
 ·obtain ⟨v, us, rfl, hv, hus⟩ := h.cons_inv
  obtain ⟨v2, us2, rfl, hv2, hus2⟩ := hus.cons_inv
  rw [hv.str_inv, hus2.nil_inv]
  cases hv2 with
  | fn _ _ _ vs us hvl hul h h' =>
    have e1 : vs = [] := List.eq_nil_of_length_eq_zero hvl
    have e2 : us = [] := List.eq_nil_of_length_eq_zero hul
    subst e1 e2
    rfl
 ·refine (Sh.strings_FieldsFunc 192 #[] (enters_of Tryz.func192 (by kernel_rfl) rfl) _ ⟨s.toArray⟩ w (by show s.toArray.size ≤ _; rw [List.size_toArray]; omega) (is_blank w)).mono ?_
  rintro ev w' ⟨A, he, _, ho, hb⟩
  rw [hl, hw] at ho
  rw [hl] at he
  exact ⟨_, he, ho, ⟨hb.os, hb.tape, hb.output, hb.size, fun b hlt _ => hb.block b hlt⟩⟩
end Pv
end Go.Proofs.YtdcgnfkkklbckaaGreatDoor
/- LAW 13: strings.Trim, strconv.Atoi, strings.Repeat as pure calls. -/
set_option linter.unusedSimpArgs false
set_option linter.unusedVariables false
namespace Go.Proofs.YtdcgnfkkklbckaaGreatDoor
namespace Pv
open Go.RowKit
theorem keeps_below {w w' : World} (hb : Below w.heap.size w w') : Keeps (fun _ => False) w w' :=
 ⟨hb.os, hb.tape, hb.output, hb.size, fun b hlt _ => hb.block b hlt⟩
theorem keeps_bytes (w : World) (e : TypeId) (t : ByteArray) : Keeps (fun _ => False) w (Lib.bytesWorld w e t) :=
 ⟨rfl, rfl, rfl, by simp [Lib.bytesWorld, World.freeze, World.alloc], fun b hb _ => by
  have hne : ¬ w.heap.size = b := Nat.ne_of_gt hb
  have hd : w.drew.heap = w.heap := rfl
  simp only [Lib.bytesWorld, World.freeze, World.alloc]
  rw [if_neg (by decide)]
  show (Array.modify _ _ _)[b]? = _
  rw [Array.getElem?_modify, if_neg hne]
  show (w.heap.push _)[b]? = w.heap[b]?
  rw [Array.getElem?_push, if_neg (Nat.ne_of_lt hb)]⟩
theorem call193 (s : List UInt8) (h : s.length ≤ 9223372036854775807) : PureCall Tryz.prog 193 [.str s, .str digT] [] ⟨.str (Lib.trimS s digT), [], []⟩ :=
 pure_still ⟨_, Tryz.func193, rfl, rfl⟩ (args_str2 s digT) (fun _ _ _ => .str _) fun w hg =>
  (Any.strings_Trim_laid Sh.lays160 (by kernel_rfl) ⟨s.toArray⟩ ⟨digT.toArray⟩ w (by show s.toArray.size ≤ _; rw [List.size_toArray]; exact h) (by decide) (ascii_of_all (by decide))).mono fun ev w' ⟨he, hb⟩ => ⟨he, keeps_below hb⟩
theorem call194 (s : List UInt8) (n : Int) (h : numF s = some n) : PureCall Tryz.prog 194 [.str s] [] ⟨.tup [.int .i64 n, .raw .nilIface], [], []⟩ :=
 pure_still ⟨_, Tryz.func194, rfl, rfl⟩ (args_str s) (rep_tup1 n) fun w hg =>
  (Sh.strconv_Atoi ⟨s.toArray⟩ n (by
   show s.toArray.size ≤ 18
   rw [List.size_toArray]
   unfold numF at h
   split at h
   ·cases h
   ·omega) (num_atoi h).1 w).mono fun ev w' ⟨he, t, hw⟩ => ⟨he, by rw [hw]; exact keeps_bytes w 5 t⟩
end Pv
end Go.Proofs.YtdcgnfkkklbckaaGreatDoor
/- LAW 13, THE WALKS: the reader of words: its next word, its next number. -/
set_option linter.unusedSimpArgs false
set_option linter.unusedVariables false
namespace Go.Proofs.YtdcgnfkkklbckaaGreatDoor
namespace Pv
def c134 : C := (.seq (.reg [⟨some 2, 32, none, .mv (.c (.str []))⟩])
 (.seq (.seq (.reg [⟨some 4, 64, none, .mv (.t 0)⟩,⟨some 5, 80, none, .nc (.t 4)⟩,⟨some 6, 96, none, .fa 0 (.t 5)⟩,⟨some 7, 112, none, .ld 1 false (.t 6)⟩,⟨some 8, 128, none, .len (.t 7)⟩,⟨some 9, 144, none, .bi false .eql (.t 8) (.c (.int .i64 0))⟩])
 (.cond (.t 9) (.seq (.reg [⟨some 10, 160, none, .mv (.t 0)⟩,⟨some 11, 176, none, .nc (.t 10)⟩,⟨some 12, 192, none, .fa 1 (.t 11)⟩,⟨none, 0, none, .st 1 (.t 12) (.c (.bool true))⟩])
 (.seq (.reg [⟨some 2, 32, none, .mv (.c (.str []))⟩])
 .ret)) .skip))
 (.seq (.reg [⟨some 13, 208, none, .mv (.t 0)⟩,⟨some 14, 224, none, .nc (.t 13)⟩,⟨some 15, 240, none, .fa 0 (.t 14)⟩,⟨some 16, 256, none, .ld 1 false (.t 15)⟩,⟨some 17, 272, none, .ia 1 (.t 16) (.c (.int .i64 0))⟩,⟨some 18, 288, none, .ld 1 false (.t 17)⟩,⟨some 3, 48, none, .mv (.t 18)⟩])
 (.seq (.reg [⟨some 19, 304, none, .mv (.t 0)⟩,⟨some 20, 320, none, .mv (.t 0)⟩,⟨some 21, 336, none, .nc (.t 20)⟩,⟨some 22, 352, none, .fa 0 (.t 21)⟩,⟨some 23, 368, none, .ld 1 false (.t 22)⟩,⟨some 24, 384, none, .slc 1 (.t 23) (some (.c (.int .i64 1))) none⟩,⟨some 25, 400, none, .nc (.t 19)⟩,⟨some 26, 416, none, .fa 0 (.t 25)⟩,⟨none, 0, none, .st 1 (.t 26) (.t 24)⟩])
 (.seq (.reg [⟨some 27, 432, none, .mv (.t 3)⟩,⟨some 2, 32, none, .mv (.t 27)⟩])
 .ret)))))
theorem fits134 : fits Tryz.prog false Tryz.f134 1 28 [(2, none)] = some c134.er := by kernel_rfl
def c135 : C := (.seq (.reg [⟨some 2, 32, none, .mv (.c (.int .i64 0))⟩])
 (.seq (.reg [⟨some 6, 96, none, .mv (.t 0)⟩,⟨some 7, 112, none, .call (.c (.fn (.func 134) [] [])) [(.t 6)]⟩,⟨some 3, 48, none, .mv (.t 7)⟩])
 (.seq (.seq (.reg [⟨some 8, 128, none, .mv (.t 3)⟩,⟨some 9, 144, none, .lens (.t 8)⟩,⟨some 10, 160, none, .bi false .eql (.t 9) (.c (.int .i64 0))⟩,⟨some 11, 176, none, .mv (.t 10)⟩,⟨some 12, 192, (some (11, false)), .mv (.t 3)⟩,⟨some 13, 208, (some (11, false)), .lens (.t 12)⟩,⟨some 14, 224, (some (11, false)), .bi false .gtr (.t 13) (.c (.int .i64 10))⟩,⟨some 15, 240, none, .pick (.t 11) (.c (.bool true)) (.t 14)⟩,⟨some 16, 256, none, .mv (.t 15)⟩,⟨some 17, 272, (some (16, false)), .mv (.t 3)⟩,⟨some 18, 288, (some (16, false)), .call (.c (.fn (.func 193) [] [])) [(.t 17), (.c (.str [48, 49, 50, 51, 52, 53, 54, 55, 56, 57]))]⟩,⟨some 19, 304, (some (16, false)), .bi false .neq (.t 18) (.c (.str []))⟩,⟨some 20, 320, none, .pick (.t 16) (.c (.bool true)) (.t 19)⟩])
 (.cond (.t 20) (.seq (.reg [⟨some 21, 336, none, .mv (.t 0)⟩,⟨some 22, 352, none, .nc (.t 21)⟩,⟨some 23, 368, none, .fa 1 (.t 22)⟩,⟨none, 0, none, .st 1 (.t 23) (.c (.bool true))⟩])
 (.seq (.reg [⟨some 2, 32, none, .mv (.c (.int .i64 0))⟩])
 .ret)) .skip))
 (.seq (.reg [⟨some 25, 400, none, .mv (.t 3)⟩,⟨some 26, 416, none, .call (.c (.fn (.func 194) [] [])) [(.t 25)]⟩,⟨some 24, 384, none, .mv (.t 26)⟩,⟨some 27, 432, none, .ex (.t 24) 0⟩,⟨some 28, 448, none, .ex (.t 24) 1⟩,⟨some 4, 64, none, .mv (.t 27)⟩,⟨some 5, 80, none, .mv (.t 28)⟩])
 (.seq (.reg [⟨some 29, 464, none, .mv (.t 4)⟩,⟨some 2, 32, none, .mv (.t 29)⟩])
 .ret)))))
theorem fits135 : fits Tryz.prog false Tryz.f135 1 30 [(2, none)] = some c135.er := by kernel_rfl
def eRw (w : List (List UInt8)) (bad : Bool) : List PV := [.sl 1 1 w.length (fl eStr w), .bool bad]
theorem fl_tail (x : List UInt8) (r : List (List UInt8)) : RowEq (x :: r).tail.length (fun i => fl eStr (x :: r) (1 + i)) (fl eStr r) := fun i _ => by
 simp only [fl]; rw [Nat.add_comm]; rfl
def wLens (w : List (List UInt8)) : Prop := w.length ≤ 65537 ∧ ∀ x ∈ w, x.length ≤ 65536
theorem wLens.tail {w : List (List UInt8)} (h : wLens w) : wLens w.tail := ⟨by have := h.1; rw [List.length_tail]; omega, fun x hx => h.2 x (List.mem_of_mem_tail hx)⟩
theorem wLens.head {w : List (List UInt8)} (h : wLens w) : (w.headD []).length ≤ 65536 := by
 cases w with
 | nil => exact Nat.zero_le _
 | cons x r => exact h.2 x (List.mem_cons_self ..)
set_option maxRecDepth 100000 in
theorem call134 (w : List (List UInt8)) (bad : Bool) : PureCall Tryz.prog 134 [.pt 0 0 0] [.box (eRw w bad)] ⟨.str (w.headD []), [.box (eRw w.tail (bad || w.isEmpty))], []⟩ := by
 refine pure_call mix Tryz.func134 fits134 rfl ?_
 cases w with
 | nil =>
   rw [show (bad || ([] : List (List UInt8)).isEmpty) = true by cases bad <;> rfl]
   conv => whnf
   refine ⟨trivial, fun hc => ?_, fun hc => (by cases hc)⟩
   conv => whnf
   exact retB
 | cons x r =>
   rw [show (bad || (x :: r).isEmpty) = bad by cases bad <;> rfl]
   have hq := fl_tail x r
   conv => whnf
   refine ⟨trivial, fun hc => ?_, fun hc => ?_⟩
   ·simp only [bp, List.length_cons] at hc; omega
   conv => whnf
   refine ⟨?_, [], ?_⟩
   ·exact g0
   conv => whnf
   refine ⟨rfl, ?_, ?_, trivial⟩ <;> exact ent
def numG (w : List (List UInt8)) : Int := (numF (w.headD [])).getD 0
def numB (w : List (List UInt8)) : Bool := (numF (w.headD [])).isNone
theorem num_test (s : List UInt8) : (bif bif (s.length : Int) == 0 then true else decide (10 < (s.length : Int)) then true else !(Lib.trimS s digT == [])) = (numF s).isNone := by
 have hn := num_none s
 cases h : numF s with
 | none =>
   rcases hn.1 h with h | h | h
   ·rw [h]; rfl
   ·rw [show ((s.length : Int) == 0) = false by rw [beq_eq_false_iff_ne]; omega, decide_eq_true (by omega)]; rfl
   ·rw [show (Lib.trimS s digT == []) = false by rw [beq_eq_false_iff_ne]; exact h]; simp
 | some n =>
   have h0 : ¬ (s.length = 0 ∨ 10 < s.length ∨ Lib.trimS s digT ≠ []) := fun hh => by rw [hn.2 hh] at h; cases h
   have h1 : s.length ≠ 0 := fun e => h0 (.inl e)
   have h2 : ¬ 10 < s.length := fun e => h0 (.inr (.inl e))
   have h3 : Lib.trimS s digT = [] := Classical.byContradiction fun e => h0 (.inr (.inr e))
   rw [show ((s.length : Int) == 0) = false by rw [beq_eq_false_iff_ne]; omega, decide_eq_false (by omega), h3]; rfl
set_option maxRecDepth 100000 in
theorem call135 (w : List (List UInt8)) (bad : Bool) (hw : wLens w) : PureCall Tryz.prog 135 [.pt 0 0 0] [.box (eRw w bad)] ⟨.int .i64 (numG w), [.box (eRw w.tail (bad || numB w))], []⟩ := by
 have hs := hw.head
 have hE : w.isEmpty = true → numB w = true := fun h => by
  have : w = [] := by simpa using h
  subst this; rfl
 unfold numG
 unfold numB at hE ⊢
 refine pure_call mix Tryz.func135 fits135 rfl ?_
 conv => whnf
 refine ⟨_, fun _ => call134 w bad, ?_⟩
 generalize w.headD [] = s at hs hE ⊢
 generalize w.tail = r
 have hn := num_none s
 conv => whnf
 refine ⟨_, fun _ => call193 s (by omega), ?_⟩
 conv => whnf
 refine ⟨?_, fun hc => ?_, fun hc => ?_⟩
 ·exact g0
 ·rw [num_test] at hc
  have h0 : numF s = none := by simpa using hc
  rw [h0]
  rw [show (bad || (none : Option Int).isNone) = true by cases bad <;> rfl]
  conv => whnf
  exact retB
 ·rw [num_test] at hc
  obtain ⟨n, h0⟩ : ∃ n, numF s = some n := by
   cases h : numF s with
   | none => rw [h] at hc; cases hc
   | some n => exact ⟨n, rfl⟩
  have hwe : w.isEmpty = false := by
   cases he : w.isEmpty with
   | false => rfl
   | true => have := hE he; rw [h0] at this; cases this
  rw [h0, hwe]
  rw [show (bad || (some n : Option Int).isNone) = bad by cases bad <;> rfl, show (bad || false) = bad by cases bad <;> rfl]
  conv => whnf
  refine ⟨_, fun _ => call194 s n h0, ?_⟩
  conv => whnf
  exact retB
end Pv
end Go.Proofs.YtdcgnfkkklbckaaGreatDoor
/- LAW 13, THE WALKS: a line's words as a condition. -/
set_option linter.unusedSimpArgs false
set_option linter.unusedVariables false
namespace Go.Proofs.YtdcgnfkkklbckaaGreatDoor
namespace Pv
def c69L1 : C := (.seq (.reg [⟨some 29, 464, none, .bi false .lss (.t 28) (.c (.int .i64 5))⟩])
 (.seq (.cond (.t 29) .skip (.exit 0))
 (.seq (.block 1 (.seq (.reg [⟨some 30, 480, none, .mv (.t 28)⟩,⟨some 31, 496, none, .ixa 5 1 false (.t 27) (.t 28)⟩,⟨some 8, 128, none, .mv (.t 30)⟩,⟨some 9, 144, none, .mv (.t 31)⟩])
 (.seq (.reg [⟨some 32, 512, none, .mv (.t 8)⟩,⟨some 33, 528, none, .bi false .gtr (.t 32) (.c (.int .i64 0))⟩,⟨some 34, 544, none, .mv (.t 33)⟩,⟨some 35, 560, (some (34, true)), .mv (.t 9)⟩,⟨some 36, 576, (some (34, true)), .mv (.t 7)⟩,⟨some 37, 592, (some (34, true)), .bi false .eql (.t 35) (.t 36)⟩,⟨some 38, 608, none, .pick (.t 34) (.t 37) (.c (.bool false))⟩])
 (.cond (.t 38) (.reg [⟨some 39, 624, none, .mv (.t 8)⟩,⟨some 40, 640, none, .fa 1 (.t 5)⟩,⟨none, 0, none, .st 1 (.t 40) (.t 39)⟩]) .skip))))
 (.reg [⟨some 41, 656, none, .bi false .add (.t 28) (.c (.int .i64 1))⟩,⟨some 28, 448, none, .mv (.t 41)⟩]))))
def c69 : C := (.seq (.reg [⟨some 2, 32, none, .al [(.int .i64 0), (.int .i64 0), (.int .i64 0), (.int .i64 0), (.int .i64 0), (.int .i64 0), (.int .i64 0)]⟩,⟨some 3, 48, none, .mv (.c (.bool false))⟩])
 (.scope (.seq (.reg [⟨some 10, 160, none, .mv (.t 0)⟩,⟨some 11, 176, none, .bd [(.nil 1), (.bool false)] [(0, 1, (.t 10))]⟩,⟨some 12, 192, none, .bx 2 (.t 11)⟩,⟨some 4, 64, none, .mv (.t 12)⟩])
 (.seq (.reg [⟨some 13, 208, none, .bd [(.int .i64 0), (.int .i64 0)] [(1, 1, (.c (.int .i64 364)))]⟩,⟨some 14, 224, none, .bd [(.int .i64 0), (.int .i64 0), (.int .i64 0), (.int .i64 0), (.int .i64 0), (.int .i64 0), (.int .i64 0)] [(3, 2, (.t 13)), (6, 1, (.c (.int .i64 16777216)))]⟩,⟨some 5, 80, none, .al [(.int .i64 0), (.int .i64 0), (.int .i64 0), (.int .i64 0), (.int .i64 0), (.int .i64 0), (.int .i64 0)]⟩,⟨none, 0, none, .st 7 (.t 5) (.t 14)⟩])
 (.seq (.reg [⟨some 15, 240, none, .mkm [.s] [.b] false false⟩,⟨some 6, 96, none, .mv (.t 15)⟩])
 (.seq (.reg [⟨some 16, 256, none, .mv (.t 4)⟩,⟨some 17, 272, none, .mv (.t 4)⟩,⟨some 18, 288, none, .call (.c (.fn (.func 134) [] [])) [(.t 17)]⟩,⟨some 19, 304, none, .bi false .neq (.t 18) (.c (.str [114, 97, 110, 107]))⟩,⟨some 20, 320, none, .nc (.t 16)⟩,⟨some 21, 336, none, .fa 1 (.t 20)⟩,⟨none, 0, none, .st 1 (.t 21) (.t 19)⟩])
 (.seq (.reg [⟨some 22, 352, none, .mv (.t 4)⟩,⟨some 23, 368, none, .call (.c (.fn (.func 135) [] [])) [(.t 22)]⟩,⟨some 24, 384, none, .fa 0 (.t 5)⟩,⟨none, 0, none, .st 1 (.t 24) (.t 23)⟩])
 (.seq (.reg [⟨some 25, 400, none, .mv (.t 4)⟩,⟨some 26, 416, none, .call (.c (.fn (.func 134) [] [])) [(.t 25)]⟩,⟨some 7, 112, none, .mv (.t 26)⟩])
 (.seq (.seq (.reg [⟨some 27, 432, none, .ld 5 true (.c (.rp 1 [(.str []), (.str [108, 101, 97, 115, 116]), (.str [109, 111, 115, 116]), (.str [117, 112]), (.str [100, 111, 119, 110])]))⟩,⟨some 28, 448, none, .mv (.c (.int .i64 0))⟩])
 (.block 0 (.loop c69L1)))
 (.seq (.reg [⟨some 42, 672, none, .mv (.t 4)⟩,⟨some 43, 688, none, .mv (.t 4)⟩,⟨some 44, 704, none, .nc (.t 43)⟩,⟨some 45, 720, none, .fa 1 (.t 44)⟩,⟨some 46, 736, none, .ld 1 false (.t 45)⟩,⟨some 47, 752, none, .mv (.t 46)⟩,⟨some 48, 768, (some (47, false)), .fa 1 (.t 5)⟩,⟨some 49, 784, (some (47, false)), .ld 1 false (.t 48)⟩,⟨some 50, 800, (some (47, false)), .bi false .eql (.t 49) (.c (.int .i64 0))⟩,⟨some 51, 816, none, .pick (.t 47) (.c (.bool true)) (.t 50)⟩,⟨some 52, 832, none, .nc (.t 42)⟩,⟨some 53, 848, none, .fa 1 (.t 52)⟩,⟨none, 0, none, .st 1 (.t 53) (.t 51)⟩])
 (.seq (.reg [⟨some 54, 864, none, .mv (.t 4)⟩,⟨some 55, 880, none, .call (.c (.fn (.func 135) [] [])) [(.t 54)]⟩,⟨some 56, 896, none, .fa 2 (.t 5)⟩,⟨none, 0, none, .st 1 (.t 56) (.t 55)⟩])
 (.cut (.seq (.lab 0)
 (.seq (.seq (.reg [⟨some 57, 912, none, .mv (.t 4)⟩,⟨some 58, 928, none, .nc (.t 57)⟩,⟨some 59, 944, none, .fa 1 (.t 58)⟩,⟨some 60, 960, none, .ld 1 false (.t 59)⟩,⟨some 61, 976, none, .mv (.t 60)⟩,⟨some 62, 992, (some (61, false)), .mv (.t 4)⟩,⟨some 63, 1008, (some (61, false)), .nc (.t 62)⟩,⟨some 64, 1024, (some (61, false)), .fa 0 (.t 63)⟩,⟨some 65, 1040, (some (61, false)), .ld 1 false (.t 64)⟩,⟨some 66, 1056, (some (61, false)), .len (.t 65)⟩,⟨some 67, 1072, (some (61, false)), .bi false .eql (.t 66) (.c (.int .i64 0))⟩,⟨some 68, 1088, none, .pick (.t 61) (.c (.bool true)) (.t 67)⟩])
 (.cond (.t 68) (.seq (.drw [⟨some 69, 1104, none, .ld 7 true (.t 5)⟩,⟨some 70, 1120, none, .mv (.t 4)⟩,⟨some 71, 1136, none, .nc (.t 70)⟩,⟨some 72, 1152, none, .fa 1 (.t 71)⟩,⟨some 73, 1168, none, .ld 1 false (.t 72)⟩,⟨some 74, 1184, none, .un false .not (.t 73)⟩,⟨none, 0, none, .st 7 (.t 2) (.t 69)⟩,⟨some 3, 48, none, .mv (.t 74)⟩]
  [(0, 1, 69), (0, 2, 69), (0, 3, 69), (0, 4, 69), (0, 5, 69), (1, 6, 70), (2, 6, 71), (3, 6, 72), (4, 6, 73), (5, 6, 74)])
 .ret) .skip))
 (.seq (.reg [⟨some 75, 1200, none, .mv (.t 4)⟩,⟨some 76, 1216, none, .call (.c (.fn (.func 134) [] [])) [(.t 75)]⟩,⟨some 7, 112, none, .mv (.t 76)⟩])
 (.seq (.reg [⟨some 77, 1232, none, .mv (.t 4)⟩,⟨some 78, 1248, none, .mv (.t 6)⟩,⟨some 79, 1264, none, .mv (.t 7)⟩,⟨some 80, 1280, none, .mpg [.s] [.b] false false false (.t 78) (.t 79)⟩,⟨some 81, 1296, none, .nc (.t 77)⟩,⟨some 82, 1312, none, .fa 1 (.t 81)⟩,⟨none, 0, none, .st 1 (.t 82) (.t 80)⟩])
 (.seq (.reg [⟨some 83, 1328, none, .mv (.t 6)⟩,⟨some 84, 1344, none, .mv (.t 7)⟩,⟨none, 0, none, .mpu [.s] [.b] false false (.t 83) (.t 84) (.c (.bool true))⟩])
 (.seq (.seq (.reg [⟨some 85, 1360, none, .mv (.t 7)⟩])
 (.block 2 (.seq (.reg [⟨some 90, 1440, none, .bi false .eql (.t 85) (.c (.str [100, 97, 121, 115]))⟩,⟨some 89, 1424, none, .mv (.t 90)⟩])
 (.cond (.t 89) (.reg [⟨some 91, 1456, none, .mv (.t 4)⟩,⟨some 92, 1472, none, .call (.c (.fn (.func 135) [] [])) [(.t 91)]⟩,⟨some 93, 1488, none, .mv (.t 4)⟩,⟨some 94, 1504, none, .call (.c (.fn (.func 135) [] [])) [(.t 93)]⟩,⟨some 95, 1520, none, .bd [(.int .i64 0), (.int .i64 0)] [(0, 1, (.t 92)), (1, 1, (.t 94))]⟩,⟨some 96, 1536, none, .fa 3 (.t 5)⟩,⟨none, 0, none, .st 2 (.t 96) (.t 95)⟩]) (.seq (.reg [⟨some 98, 1568, none, .bi false .eql (.t 85) (.c (.str [97, 98, 111, 118, 101]))⟩,⟨some 97, 1552, none, .mv (.t 98)⟩])
 (.cond (.t 97) (.reg [⟨some 99, 1584, none, .mv (.t 4)⟩,⟨some 100, 1600, none, .call (.c (.fn (.func 135) [] [])) [(.t 99)]⟩,⟨some 101, 1616, none, .fa 5 (.t 5)⟩,⟨none, 0, none, .st 1 (.t 101) (.t 100)⟩]) (.seq (.reg [⟨some 103, 1648, none, .bi false .eql (.t 85) (.c (.str [98, 101, 108, 111, 119]))⟩,⟨some 102, 1632, none, .mv (.t 103)⟩])
 (.cond (.t 102) (.reg [⟨some 104, 1664, none, .mv (.t 4)⟩,⟨some 105, 1680, none, .call (.c (.fn (.func 135) [] [])) [(.t 104)]⟩,⟨some 106, 1696, none, .fa 6 (.t 5)⟩,⟨none, 0, none, .st 1 (.t 106) (.t 105)⟩]) (.reg [⟨some 86, 1376, none, .mv (.t 4)⟩,⟨some 87, 1392, none, .nc (.t 86)⟩,⟨some 88, 1408, none, .fa 1 (.t 87)⟩,⟨none, 0, none, .st 1 (.t 88) (.c (.bool true))⟩])))))))))
 (.gto 0)))))))))))))))))))
theorem fits69 : fits Tryz.prog false Tryz.f69 1 107 [(2, some (7, true)), (3, none)] = some c69.er := by kernel_rfl
section
variable {P : Program} {s : PS} {wr : Bool} {np n : Nat} {Q : Lv → PS → Prop} {b : C}
theorem LSem.jumps2 (hmix : P.follows .mixedOrders = true) {α : Type} (l : Nat) (r : C) (hr : C.from l b = some r) (I : α → Prop) (fl : α → List (Nat × PV)) (sl : α → List (Nat × SE)) (μ : α → Nat)
  (pass : ∀ x, I x → ∀ J : PS → Prop, (∀ s', (s'.ok ∧ ∃ x', I x' ∧ μ x' < μ x ∧ Ent np s' n (fl x') (sl x')) → J s') → vc (PureCall P) (LSem P wr np) r (jmps l J Q) (St n (fl x) (sl x)))
  (first : ∀ J : PS → Prop, (∀ x, I x → vc (PureCall P) (LSem P wr np) r (jmps l J Q) (St n (fl x) (sl x))) → vc (PureCall P) (LSem P wr np) b (jmps l J Q) s) : LSem P wr np (.scope b) Q s :=
 LSem.jumps hmix l r hr I fl sl μ (first _ fun x hx => pass x hx _ fun _ ⟨h0, x', h1, _, h3⟩ => ⟨h0, x', h1, h3⟩) fun x hx => pass x hx _ fun _ h => h
end
def partsG : Nat → Cd → Bool → Bool → Bool → Bool → List (List UInt8) → Cd × Bool
 | 0, c, bad, _, _, _, _ => (c, !bad)
 | n + 1, c, bad, d, a, b, w => if bad = true then (c, false) else match w with
   | [] => (c, true)
   | x :: r => if x = wDays then partsG n { c with f := numG r, u := numG r.tail } ((d || numB r) || numB r.tail) true a b r.tail.tail
     else if x = wAbove then partsG n { c with a := numG r } (a || numB r) d true b r.tail
     else if x = wBelow then partsG n { c with b := numG r } (b || numB r) d a true r.tail
     else (c, false)
def kU (w : List UInt8) : Nat → Int
 | 0 => 0
 | i + 1 => if 0 < i ∧ kindWords.getD i [] = w then i else kU w i
theorem kU_kind (w : List UInt8) : kU w 5 = kindOf w := by
 by_cases h1 : w = wLeast
 ·subst h1; decide
 by_cases h2 : w = wMost
 ·subst h2; decide
 by_cases h3 : w = wUp
 ·subst h3; decide
 by_cases h4 : w = wDown
 ·subst h4; decide
 unfold kindOf
 rw [if_neg h1, if_neg h2, if_neg h3, if_neg h4]
 unfold kU; rw [if_neg (fun h => h4 h.2.symm)]
 unfold kU; rw [if_neg (fun h => h3 h.2.symm)]
 unfold kU; rw [if_neg (fun h => h2 h.2.symm)]
 unfold kU; rw [if_neg (fun h => h1 h.2.symm)]
 unfold kU; rw [if_neg (fun h => absurd h.1 (Nat.lt_irrefl 0))]
 rfl
def headG (w : List (List UInt8)) : Cd × Bool :=
 (⟨numG w.tail, kindOf (w.tail.tail.headD []), numG w.tail.tail.tail, 0, 364, 0, 16777216⟩,
  (((!(w.headD [] == wRank)) || numB w.tail) || w.tail.tail.isEmpty || (kindOf (w.tail.tail.headD []) == 0)) || numB w.tail.tail.tail)
def condG (w : List (List UInt8)) : Cd × Bool := partsG (w.length + 1) (headG w).1 (headG w).2 false false false w.tail.tail.tail.tail
set_option maxRecDepth 100000 in
set_option maxHeartbeats 8000000 in
theorem call69 (w : List (List UInt8)) (hw : wLens w) : PureCall Tryz.prog 69 [.sl 1 1 w.length (fl eStr w)] [] ⟨.tup [.agg (eCd (condG w).1), .bool (condG w).2], [], []⟩ := by
 refine pure_call mix Tryz.func69 fits69 rfl ?_
 conv => whnf
 refine ⟨trivial, ?_⟩
 refine LSem.jumps2 (n := 107) mix (α := (Nat × Cd × Bool × Bool × Bool × Bool) × List (List UInt8) × (List PC → Bool) × (List PC → List PC)) 0 _ rfl
  (fun ⟨⟨n, c, bad, d, a, b⟩, w', h, f⟩ => wLens w' ∧ w'.length < n ∧ (f [.s wDays] = [.b d] ∧ f [.s wAbove] = [.b a] ∧ f [.s wBelow] = [.b b] ∧ ∀ k, ∃ z, f [.s k] = [.b z]) ∧ partsG n c bad d a b w' = condG w)
  (fun ⟨⟨n, c, bad, d, a, b⟩, w', h, f⟩ => [(2, .pt 32 0 0), (4, .pt 192 0 0), (5, .pt 80 0 0), (6, .rf none 240)])
  (fun ⟨⟨n, c, bad, d, a, b⟩, w', h, f⟩ => [(32, .box [.int .i64 0, .int .i64 0, .int .i64 0, .int .i64 0, .int .i64 0, .int .i64 0, .int .i64 0]), (80, .box (eCd c)), (192, .box (eRw w' bad)), (240, .box [.mpv [.s] [.b] false false h f])])
  (fun x => x.1.1) ?_ ?_
 ·rintro ⟨⟨n, c, bad, d, a, b⟩, w', h, f⟩ ⟨h1, h2, ⟨h3, h4, h5, h6⟩, h7⟩ J hJ
  obtain ⟨n, rfl⟩ : ∃ m, n = m + 1 := ⟨n - 1, by omega⟩
  cases bad with
  | true =>
    rw [show condG w = (c, false) from h7.symm]
    conv => whnf
    refine ⟨?_, fun hc => ?_, fun hc => (by cases hc)⟩
    ·exact g0
    conv => whnf
    refine ⟨rfl, ?_⟩
    conv => whnf
    refine ⟨?_, [], ?_⟩
    ·exact g0
    conv => whnf
    refine ⟨rfl, ?_, trivial, trivial⟩
    exact ent
  | false =>
    cases w' with
    | nil =>
      rw [show condG w = (c, true) from h7.symm]
      conv => whnf
      refine ⟨?_, fun hc => ?_, fun hc => (by cases hc)⟩
      ·exact g0
      conv => whnf
      refine ⟨rfl, ?_⟩
      conv => whnf
      refine ⟨?_, [], ?_⟩
      ·exact g0
      conv => whnf
      refine ⟨rfl, ?_, trivial, trivial⟩
      exact ent
    | cons x r =>
      conv => whnf
      refine ⟨?_, fun hc => ?_, fun hc => ?_⟩
      ·exact g0
      ·simp only [bp, List.length_cons] at hc; omega
      clear hc
      conv => whnf
      have hN : PureCall Tryz.prog 134 [.pt 0 0 0] [.box (eRw (x :: r) false)] ⟨.str x, [.box (eRw r false)], []⟩ := call134 (x :: r) false
      have hr : wLens r := h1.tail
      have h2' : r.length < n := by rw [List.length_cons] at h2; omega
      have hne : ∀ u v : List UInt8, u ≠ v → eqK [.s u] [.s v] = false := fun u v h => by
       show (u == v && true) = false
       rw [beq_eq_false_iff_ne.2 h]; rfl
      have heq : ∀ u : List UInt8, eqK [.s u] [.s u] = true := fun u => by
       show (u == u && true) = true
       rw [beq_self_eq_true]; rfl
      refine ⟨_, fun _ => hN, ?_⟩
      by_cases e1 : x = wDays
      ·subst e1
       have hB : boolP ((f [.s wDays]).headD default) = d := by rw [h3]; rfl
       conv => whnf
       refine ⟨?_, fun hc => ?_, fun hc => absurd hc (by decide)⟩
       ·exact g0
       conv => whnf
       refine ⟨_, fun _ => call135 r (boolP ((f [.s wDays]).headD default)) hr, ?_⟩
       conv => whnf
       refine ⟨_, fun _ => call135 r.tail (boolP ((f [.s wDays]).headD default) || numB r) hr.tail, ?_⟩
       conv => whnf
       apply hJ
       refine ⟨?_, ((n, { c with f := numG r, u := numG r.tail }, (boolP ((f [.s wDays]).headD default) || numB r) || numB r.tail, true, a, b), r.tail.tail, (fun k => eqK k [.s wDays] || h k), (fun k => bif eqK k [.s wDays] then [.b true] else f k)), ⟨hr.tail.tail, ?_, ⟨?_, ?_, ?_, ?_⟩, ?_⟩, ?_, rfl, rfl, ?_, ?_⟩
       ·exact g0
       ·simp only [List.length_tail]; omega
       ·dsimp only; rw [heq]; rfl
       ·dsimp only; rw [hne _ _ (by decide)]; exact h4
       ·dsimp only; rw [hne _ _ (by decide)]; exact h5
       ·intro k
        dsimp only
        cases eqK [.s k] [.s wDays]
        ·exact h6 k
        ·exact ⟨true, rfl⟩
       ·rw [hB, ← h7]; rfl
       ·exact Nat.lt_succ_self n
       ·exact ent
       ·exact ent
      by_cases e2 : x = wAbove
      ·subst e2
       have hB : boolP ((f [.s wAbove]).headD default) = a := by rw [h4]; rfl
       conv => whnf
       refine ⟨?_, fun hc => absurd hc (by decide), fun hc => ?_⟩
       ·exact g0
       conv => whnf
       refine ⟨?_, fun hc => ?_, fun hc => absurd hc (by decide)⟩
       ·exact g0
       conv => whnf
       refine ⟨_, fun _ => call135 r (boolP ((f [.s wAbove]).headD default)) hr, ?_⟩
       conv => whnf
       apply hJ
       refine ⟨?_, ((n, { c with a := numG r }, boolP ((f [.s wAbove]).headD default) || numB r, d, true, b), r.tail, (fun k => eqK k [.s wAbove] || h k), (fun k => bif eqK k [.s wAbove] then [.b true] else f k)), ⟨hr.tail, ?_, ⟨?_, ?_, ?_, ?_⟩, ?_⟩, ?_, rfl, rfl, ?_, ?_⟩
       ·exact g0
       ·simp only [List.length_tail]; omega
       ·dsimp only; rw [hne _ _ (by decide)]; exact h3
       ·dsimp only; rw [heq]; rfl
       ·dsimp only; rw [hne _ _ (by decide)]; exact h5
       ·intro k
        dsimp only
        cases eqK [.s k] [.s wAbove]
        ·exact h6 k
        ·exact ⟨true, rfl⟩
       ·rw [hB, ← h7]; rfl
       ·exact Nat.lt_succ_self n
       ·exact ent
       ·exact ent
      by_cases e3 : x = wBelow
      ·subst e3
       have hB : boolP ((f [.s wBelow]).headD default) = b := by rw [h5]; rfl
       conv => whnf
       refine ⟨?_, fun hc => absurd hc (by decide), fun hc => ?_⟩
       ·exact g0
       conv => whnf
       refine ⟨?_, fun hc => absurd hc (by decide), fun hc => ?_⟩
       ·exact g0
       conv => whnf
       refine ⟨?_, fun hc => ?_, fun hc => absurd hc (by decide)⟩
       ·exact g0
       conv => whnf
       refine ⟨_, fun _ => call135 r (boolP ((f [.s wBelow]).headD default)) hr, ?_⟩
       conv => whnf
       apply hJ
       refine ⟨?_, ((n, { c with b := numG r }, boolP ((f [.s wBelow]).headD default) || numB r, d, a, true), r.tail, (fun k => eqK k [.s wBelow] || h k), (fun k => bif eqK k [.s wBelow] then [.b true] else f k)), ⟨hr.tail, ?_, ⟨?_, ?_, ?_, ?_⟩, ?_⟩, ?_, rfl, rfl, ?_, ?_⟩
       ·exact g0
       ·simp only [List.length_tail]; omega
       ·dsimp only; rw [hne _ _ (by decide)]; exact h3
       ·dsimp only; rw [hne _ _ (by decide)]; exact h4
       ·dsimp only; rw [heq]; rfl
       ·intro k
        dsimp only
        cases eqK [.s k] [.s wBelow]
        ·exact h6 k
        ·exact ⟨true, rfl⟩
       ·rw [hB, ← h7]; rfl
       ·exact Nat.lt_succ_self n
       ·exact ent
       ·exact ent
      have hG : (c, false) = condG w := by
       rw [← h7]; unfold partsG; dsimp only; rw [if_neg (by decide), if_neg e1, if_neg e2, if_neg e3]
      conv => whnf
      refine ⟨?_, fun hc => absurd (eq_of_beq hc) e1, fun hc => ?_⟩
      ·exact g0
      conv => whnf
      refine ⟨?_, fun hc => absurd (eq_of_beq hc) e2, fun hc => ?_⟩
      ·exact g0
      conv => whnf
      refine ⟨?_, fun hc => absurd (eq_of_beq hc) e3, fun hc => ?_⟩
      ·exact g0
      conv => whnf
      apply hJ
      refine ⟨?_, ((n, c, true, d, a, b), r, (fun k => eqK k [.s x] || h k), (fun k => bif eqK k [.s x] then [.b true] else f k)), ⟨hr, h2', ⟨?_, ?_, ?_, ?_⟩, ?_⟩, ?_, rfl, rfl, ?_, ?_⟩
      ·exact g0
      ·dsimp only; rw [hne _ _ (fun e => e1 e.symm)]; exact h3
      ·dsimp only; rw [hne _ _ (fun e => e2 e.symm)]; exact h4
      ·dsimp only; rw [hne _ _ (fun e => e3 e.symm)]; exact h5
      ·intro k
       dsimp only
       cases eqK [.s k] [.s x]
       ·exact h6 k
       ·exact ⟨true, rfl⟩
      ·rw [← hG]; cases n <;> rfl
      ·exact Nat.lt_succ_self n
      ·exact ent
      ·exact ent
 ·intro J hJ
  have hw1 := hw.tail
  have hw2 := hw1.tail
  have hw3 := hw2.tail
  conv => whnf
  refine ⟨_, fun _ => call134 w false, ?_⟩
  conv => whnf
  refine ⟨_, fun _ => call135 w.tail (!(w.headD [] == wRank)) hw1, ?_⟩
  conv => whnf
  refine ⟨_, fun _ => call134 w.tail.tail ((!(w.headD [] == wRank)) || numB w.tail), ?_⟩
  conv => whnf
  refine ⟨?_, ?_⟩
  ·exact g0
  refine LSem.loop (n := 107) mix (α := Nat) (fun i => i ≤ 5)
   (fun i => [(2, .pt 32 0 0), (4, .pt 192 0 0), (5, .pt 80 0 0), (6, .rf none 240), (7, .str (w.tail.tail.headD [])), (27, .agg [.str [], .str wLeast, .str wMost, .str wUp, .str wDown]), (28, .int .i64 i)])
   (fun i => [(32, .box [.int .i64 0, .int .i64 0, .int .i64 0, .int .i64 0, .int .i64 0, .int .i64 0, .int .i64 0]), (80, .box (eCd ⟨numG w.tail, kU (w.tail.tail.headD []) i, 0, 0, 364, 0, 16777216⟩)), (192, .box (eRw w.tail.tail.tail (((!(w.headD [] == wRank)) || numB w.tail) || w.tail.tail.isEmpty))), (240, .box [.mpv [.s] [.b] false false (fun _ => false) (fun _ => [.b false])])]) (fun i => 5 - i) 0 ?_ ?_ ?_
  ·exact Nat.zero_le _
  ·refine ⟨rfl, rfl, ?_, ?_⟩ <;> exact ent
  ·intro i hi
   have hcs : i = 0 ∨ i = 1 ∨ i = 2 ∨ i = 3 ∨ i = 4 ∨ i = 5 := by omega
   rcases hcs with rfl | rfl | rfl | rfl | rfl | rfl
   ·conv => whnf
    refine ⟨trivial, fun hc => ?_, fun hc => (by cases hc)⟩
    conv => whnf
    refine ⟨?_, fun hc => (by cases hc), fun hc => ?_⟩
    ·exact g0
    conv => whnf
    refine ⟨?_, 1, by omega, by omega, rfl, rfl, ?_, ?_⟩
    ·exact g0
    ·exact ent
    ·exact ent
   ·conv => whnf
    refine ⟨trivial, fun hc => ?_, fun hc => (by cases hc)⟩
    conv => whnf
    refine ⟨?_, fun hc => ?_, fun hc => ?_⟩
    ·exact g0
    ·have hk : (1 : Int) = kU (w.tail.tail.headD []) 2 := by
      have he : wLeast = w.tail.tail.headD [] := eq_of_beq hc
      unfold kU; rw [if_pos ⟨by decide, he⟩]; rfl
     conv => whnf
     refine ⟨?_, 2, by omega, by omega, rfl, rfl, ?_, ?_⟩
     ·exact g0
     ·exact ent
     ·exact ent
    ·have hk : kU (w.tail.tail.headD []) 1 = kU (w.tail.tail.headD []) 2 := by
      have he : ¬ wLeast = w.tail.tail.headD [] := ne_of_beq_false hc
      rw [show kU (w.tail.tail.headD []) 2 = if 0 < 1 ∧ kindWords.getD 1 [] = w.tail.tail.headD [] then 1 else kU (w.tail.tail.headD []) 1 from rfl, if_neg (fun h => he h.2)]
     conv => whnf
     refine ⟨?_, 2, by omega, by omega, rfl, rfl, ?_, ?_⟩
     ·exact g0
     ·exact ent
     ·exact ent
   ·conv => whnf
    refine ⟨trivial, fun hc => ?_, fun hc => (by cases hc)⟩
    conv => whnf
    refine ⟨?_, fun hc => ?_, fun hc => ?_⟩
    ·exact g0
    ·have hk : (2 : Int) = kU (w.tail.tail.headD []) 3 := by
      have he : wMost = w.tail.tail.headD [] := eq_of_beq hc
      unfold kU; rw [if_pos ⟨by decide, he⟩]; rfl
     conv => whnf
     refine ⟨?_, 3, by omega, by omega, rfl, rfl, ?_, ?_⟩
     ·exact g0
     ·exact ent
     ·exact ent
    ·have hk : kU (w.tail.tail.headD []) 2 = kU (w.tail.tail.headD []) 3 := by
      have he : ¬ wMost = w.tail.tail.headD [] := ne_of_beq_false hc
      rw [show kU (w.tail.tail.headD []) 3 = if 0 < 2 ∧ kindWords.getD 2 [] = w.tail.tail.headD [] then 2 else kU (w.tail.tail.headD []) 2 from rfl, if_neg (fun h => he h.2)]
     conv => whnf
     refine ⟨?_, 3, by omega, by omega, rfl, rfl, ?_, ?_⟩
     ·exact g0
     ·exact ent
     ·exact ent
   ·conv => whnf
    refine ⟨trivial, fun hc => ?_, fun hc => (by cases hc)⟩
    conv => whnf
    refine ⟨?_, fun hc => ?_, fun hc => ?_⟩
    ·exact g0
    ·have hk : (3 : Int) = kU (w.tail.tail.headD []) 4 := by
      have he : wUp = w.tail.tail.headD [] := eq_of_beq hc
      unfold kU; rw [if_pos ⟨by decide, he⟩]; rfl
     conv => whnf
     refine ⟨?_, 4, by omega, by omega, rfl, rfl, ?_, ?_⟩
     ·exact g0
     ·exact ent
     ·exact ent
    ·have hk : kU (w.tail.tail.headD []) 3 = kU (w.tail.tail.headD []) 4 := by
      have he : ¬ wUp = w.tail.tail.headD [] := ne_of_beq_false hc
      rw [show kU (w.tail.tail.headD []) 4 = if 0 < 3 ∧ kindWords.getD 3 [] = w.tail.tail.headD [] then 3 else kU (w.tail.tail.headD []) 3 from rfl, if_neg (fun h => he h.2)]
     conv => whnf
     refine ⟨?_, 4, by omega, by omega, rfl, rfl, ?_, ?_⟩
     ·exact g0
     ·exact ent
     ·exact ent
   ·conv => whnf
    refine ⟨trivial, fun hc => ?_, fun hc => (by cases hc)⟩
    conv => whnf
    refine ⟨?_, fun hc => ?_, fun hc => ?_⟩
    ·exact g0
    ·have hk : (4 : Int) = kU (w.tail.tail.headD []) 5 := by
      have he : wDown = w.tail.tail.headD [] := eq_of_beq hc
      unfold kU; rw [if_pos ⟨by decide, he⟩]; rfl
     conv => whnf
     refine ⟨?_, 5, by omega, by omega, rfl, rfl, ?_, ?_⟩
     ·exact g0
     ·exact ent
     ·exact ent
    ·have hk : kU (w.tail.tail.headD []) 4 = kU (w.tail.tail.headD []) 5 := by
      have he : ¬ wDown = w.tail.tail.headD [] := ne_of_beq_false hc
      rw [show kU (w.tail.tail.headD []) 5 = if 0 < 4 ∧ kindWords.getD 4 [] = w.tail.tail.headD [] then 4 else kU (w.tail.tail.headD []) 4 from rfl, if_neg (fun h => he h.2)]
     conv => whnf
     refine ⟨?_, 5, by omega, by omega, rfl, rfl, ?_, ?_⟩
     ·exact g0
     ·exact ent
     ·exact ent
   ·conv => whnf
    refine ⟨trivial, fun hc => (by cases hc), fun hc => ?_⟩
    rw [kU_kind]
    conv => whnf
    refine ⟨_, fun _ => call135 w.tail.tail.tail (bif ((!(w.headD [] == wRank)) || numB w.tail) || w.tail.tail.isEmpty then true else kindOf (w.tail.tail.headD []) == 0) hw3, ?_⟩
    conv => whnf
    refine ⟨?_, ?_⟩
    ·exact g0
    refine LSem.cut mix (fl := [(2, .pt 32 0 0), (4, .pt 192 0 0), (5, .pt 80 0 0), (6, .rf none 240)])
     (sl := [(32, .box [.int .i64 0, .int .i64 0, .int .i64 0, .int .i64 0, .int .i64 0, .int .i64 0, .int .i64 0]), (80, .box (eCd (headG w).1)), (192, .box (eRw w.tail.tail.tail.tail (headG w).2)), (240, .box [.mpv [.s] [.b] false false (fun _ => false) (fun _ => [.b false])])]) ?_
     (hJ ((w.length + 1, (headG w).1, (headG w).2, false, false, false), w.tail.tail.tail.tail, _, _) ⟨hw3.tail, by simp only [List.length_tail]; omega, ⟨rfl, rfl, rfl, fun k => ⟨false, rfl⟩⟩, rfl⟩)
    have hB : ((bif ((!(w.headD [] == wRank)) || numB w.tail) || w.tail.tail.isEmpty then true else kindOf (w.tail.tail.headD []) == 0) || numB w.tail.tail.tail) = (headG w).2 := by
     unfold headG
     dsimp only
     cases ((!(w.headD [] == wRank)) || numB w.tail) || w.tail.tail.isEmpty <;> rfl
    rw [hB]
    refine ⟨rfl, rfl, ?_, ?_⟩ <;> exact ent
end Pv
end Go.Proofs.YtdcgnfkkklbckaaGreatDoor
/- LAW 13, THE WALKS: a text's lines that are conditions. -/
set_option linter.unusedSimpArgs false
set_option linter.unusedVariables false
namespace Go.Proofs.YtdcgnfkkklbckaaGreatDoor
namespace Pv
def c133 : C := (.seq (.reg [⟨some 2, 32, none, .mv (.c (.nil 1))⟩])
 (.seq (.reg [⟨some 3, 48, none, .mv (.t 0)⟩,⟨some 4, 64, none, .call (.c (.fn (.func 149) [] [])) [(.t 3), (.c (.fn (.func 192) [] []))]⟩,⟨some 2, 32, none, .mv (.t 4)⟩])
 .ret))
theorem fits133 : fits Tryz.prog false Tryz.f133 1 5 [(2, none)] = some c133.er := by kernel_rfl
def c68L1 : C := (.seq (.reg [⟨some 11, 176, none, .bi false .lss (.t 10) (.t 9)⟩])
 (.seq (.cond (.t 11) .skip (.exit 0))
 (.seq (.block 1 (.seq (.reg [⟨some 12, 192, none, .mv (.t 10)⟩,⟨some 13, 208, none, .ia 1 (.t 8) (.t 10)⟩,⟨some 14, 224, none, .ld 1 false (.t 13)⟩,⟨some 4, 64, none, .mv (.t 12)⟩,⟨some 5, 80, none, .mv (.t 14)⟩])
 (.seq (.reg [⟨some 15, 240, none, .mv (.t 5)⟩,⟨some 16, 256, none, .call (.c (.fn (.func 133) [] [])) [(.t 15)]⟩,⟨some 6, 96, none, .mv (.t 16)⟩])
 (.seq (.reg [⟨some 17, 272, none, .mv (.t 6)⟩,⟨some 18, 288, none, .len (.t 17)⟩,⟨some 19, 304, none, .bi false .gtr (.t 18) (.c (.int .i64 0))⟩,⟨some 20, 320, none, .mv (.t 19)⟩,⟨some 21, 336, (some (20, true)), .mv (.t 6)⟩,⟨some 22, 352, (some (20, true)), .ia 1 (.t 21) (.c (.int .i64 0))⟩,⟨some 23, 368, (some (20, true)), .ld 1 false (.t 22)⟩,⟨some 24, 384, (some (20, true)), .ixs (.t 23) (.c (.int .i64 0))⟩,⟨some 25, 400, (some (20, true)), .bi false .neq (.t 24) (.c (.int .u8 35))⟩,⟨some 26, 416, none, .pick (.t 20) (.t 25) (.c (.bool false))⟩])
 (.cond (.t 26) (.reg [⟨some 27, 432, none, .mv (.t 3)⟩,⟨some 28, 448, none, .mv (.t 4)⟩,⟨some 29, 464, none, .bi false .add (.t 28) (.c (.int .i64 1))⟩,⟨some 30, 480, none, .mv (.t 6)⟩,⟨some 31, 496, none, .bd [(.int .i64 0), (.nil 1)] [(0, 1, (.t 29)), (1, 1, (.t 30))]⟩,⟨some 32, 512, none, .bs 183 2 [(.t 31)]⟩,⟨some 33, 528, none, .app 183 2 32 (.t 27) (.t 32)⟩,⟨some 3, 48, none, .mv (.t 33)⟩]) .skip)))))
 (.reg [⟨some 34, 544, none, .bi false .add (.t 10) (.c (.int .i64 1))⟩,⟨some 10, 160, none, .mv (.t 34)⟩]))))
def c68 : C := (.seq (.reg [⟨some 2, 32, none, .mv (.c (.nil 2))⟩])
 (.seq (.reg [⟨some 3, 48, none, .mv (.c (.nil 2))⟩])
 (.seq (.seq (.reg [⟨some 7, 112, none, .mv (.t 0)⟩,⟨some 8, 128, none, .call (.c (.fn (.func 132) [] [])) [(.t 7), (.c (.str [10]))]⟩,⟨some 9, 144, none, .len (.t 8)⟩,⟨some 10, 160, none, .mv (.c (.int .i64 0))⟩])
 (.block 0 (.loop c68L1)))
 (.seq (.reg [⟨some 35, 560, none, .mv (.t 3)⟩,⟨some 2, 32, none, .mv (.t 35)⟩])
 .ret))))
theorem fits68 : fits Tryz.prog false Tryz.f68 1 36 [(2, none)] = some c68.er := by kernel_rfl
theorem call133 (s : List UInt8) (h : s.length ≤ 65536) : PureCall Tryz.prog 133 [.str s] [] ⟨.os 1000000000, [], [.row 0 9 1 (wordsB isBl s).length (fl eStr (wordsB isBl s))]⟩ := by
 refine pure_call mix Tryz.func133 fits133 rfl ?_
 conv => whnf
 refine ⟨_, fun _ => call149 s h, ?_⟩
 conv => whnf
 refine ⟨?_, [64], ?_⟩
 ·exact g0
 conv => whnf
 refine ⟨rfl, ?_, trivial, ?_⟩ <;> exact ent
def cntd : List (List UInt8) → Bool
 | [] => false
 | x :: _ => !(x.getD 0 0 == 35)
def linL : Int → List (List (List UInt8)) → List (Int × List (List UInt8))
 | _, [] => []
 | i, w :: r => if cntd w = true then (i + 1, w) :: linL (i + 1) r else linL (i + 1) r
def eLn (x : Int × List (List UInt8)) : List PV := [.int .i64 x.1, .sl 0 1 x.2.length (fl eStr x.2)]
def linesW (s : List UInt8) : List (List (List UInt8)) := (splitC 10 s).map (wordsB isBl)
theorem linesW_getD {s : List UInt8} {i : Nat} (h : i < (splitC 10 s).length) : (linesW s).getD i default = wordsB isBl ((splitC 10 s).getD i default) := by
 simp [linesW, List.getD, h]
theorem linesW_len (s : List UInt8) : (linesW s).length = (splitC 10 s).length := by simp [linesW]
theorem linL_drop {W : List (List (List UInt8))} {i : Nat} (h : i < W.length) : linL (i : Int) (W.drop i) = if cntd (W.getD i default) = true then ((i : Int) + 1, W.getD i default) :: linL ((i : Int) + 1) (W.drop (i + 1)) else linL ((i : Int) + 1) (W.drop (i + 1)) := by
 rw [List.drop_eq_getElem_cons h]
 have : W.getD i default = W[i] := by simp [List.getD, h]
 rw [this]; rfl
set_option maxRecDepth 100000 in
set_option maxHeartbeats 8000000 in
theorem call68 (s : List UInt8) (hs : s.length ≤ 65536) : PureCall Tryz.prog 68 [.str s] [] ⟨.os 1000000000, [], [.row 0 183 2 (linL 0 (linesW s)).length (fl eLn (linL 0 (linesW s)))]⟩ := by
 obtain ⟨L, hL⟩ : ∃ L, L = splitC 10 s := ⟨_, rfl⟩
 obtain ⟨W, hW⟩ : ∃ W, W = linesW s := ⟨_, rfl⟩
 have hWl : W.length = L.length := by rw [hW, hL, linesW_len]
 have hLl : L.length ≤ 65537 := by have := (splitC_len 10 s).1; rw [← hL] at this; omega
 have hWg : ∀ i, i < L.length → W.getD i default = wordsB isBl (L.getD i default) := fun i hi => by
  rw [hW, linesW_getD (by rw [← hL]; exact hi), hL]
 have hLm : ∀ i, i < L.length → (L.getD i default).length ≤ 65536 := fun i hi => by
  have := (splitC_len 10 s).2 (L.getD i default) (by rw [← hL]; exact getD_mem hi); omega
 refine pure_call mix Tryz.func68 fits68 rfl ?_
 conv => whnf
 refine ⟨_, fun _ => call132 s 10 (by omega), ?_⟩
 rw [← hL, ← hW]
 conv => whnf
 refine ⟨?_, ?_⟩
 ·exact g0
 refine LSem.adopt 3 1000000 183 2 2 rfl rfl ?_
 refine LSem.loop (n := 36) mix (α := Nat × List (Int × List (List UInt8))) (fun x => x.1 ≤ L.length ∧ x.2.length ≤ x.1 ∧ x.2 ++ linL (x.1 : Int) (W.drop x.1) = linL 0 W)
  (fun x => [(3, .os 1000000), (8, .os 128), (9, .int .i64 L.length), (10, .int .i64 x.1)])
  (fun x => [(1000000, .row 0 183 2 x.2.length (fl eLn x.2)), (128, .row 0 9 1 L.length (fl eStr L))]) (fun x => L.length - x.1) (0, []) ?_ ?_ ?_
 ·exact ⟨Nat.zero_le _, Nat.le_refl _, rfl⟩
 ·refine ⟨rfl, rfl, ?_, ?_⟩ <;> exact ent
 ·rintro ⟨i, out⟩ ⟨hi, ho, hp⟩
  dsimp only at hi ho hp
  have hj : ((i : Int)).toNat = i := by omega
  conv => whnf
  refine ⟨trivial, fun hc => ?_, fun hc => ?_⟩
  ·replace hc := of_decide_eq_true hc
   have hlt : i < L.length := by
    have h : (i : Int) < L.length := hc
    omega
   rw [linL_drop (by omega)] at hp
   have hWi := hWg i hlt
   have hok := words_ok isBl (L.getD i default)
   conv => whnf
   dsimp only
   rw [hj]
   refine ⟨_, fun _ => call133 (L.getD i default) (hLm i hlt), ?_⟩
   rw [← hWi] at hok ⊢
   generalize W.getD i default = w at hp hok ⊢
   cases w with
   | nil =>
     rw [if_neg (by decide)] at hp
     conv => whnf
     refine ⟨?_, fun h => (by cases h), fun _ => ?_⟩
     ·exact g0
     conv => whnf
     refine ⟨?_, (i + 1, out), ⟨hlt, by dsimp only; omega, hp⟩, ?_, rfl, rfl, ?_, ?_⟩
     ·exact g0
     ·dsimp only; omega
     ·exact ent
     ·exact ent
   | cons x r =>
     have hx := (hok x (List.mem_cons_self ..)).1
     have hxl : 0 < x.length := List.length_pos_iff.2 hx
     have hcn : cntd (x :: r) = !(x.getD 0 0 == 35) := rfl
     have h35 : (((x.getD 0 0).toNat : Int) != 35) = !(x.getD 0 0 == 35) := by
      rw [Bool.eq_iff_iff]
      simp only [bne_iff_ne, ne_eq, Bool.not_eq_true', beq_eq_false_iff_ne]
      constructor
      ·intro h e; rw [e] at h; exact h rfl
      ·intro h e; exact h (UInt8.toNat_inj.1 (by show _ = 35; omega))
     rw [hcn, ← h35] at hp
     have hd : decide ((0 : Int) < (((x :: r).length : Nat) : Int)) = true := decide_eq_true (by rw [List.length_cons]; omega)
     conv => whnf
     refine ⟨?_, fun h => ?_, fun h => ?_⟩
     ·exact g1
     ·replace h : (((x.getD 0 0).toNat : Int) != 35) = true := by rw [hd] at h; exact h
      rw [if_pos h] at hp
      have q := fl_push eLn out ((i : Int) + 1, x :: r)
      have hol : (out ++ [((i : Int) + 1, x :: r)]).length = out.length + 1 := by simp
      conv => whnf
      refine ⟨?_, (i + 1, out ++ [((i : Int) + 1, x :: r)]), ⟨hlt, by dsimp only; rw [hol]; omega, by dsimp only; rw [List.append_assoc]; exact hp⟩, ?_, rfl, rfl, ?_, ?_⟩
      ·exact g0
      ·dsimp only; omega
      ·exact ent
      ·exact ent
     ·replace h : (((x.getD 0 0).toNat : Int) != 35) = false := by rw [hd] at h; exact h
      rw [if_neg (by rw [h]; decide)] at hp
      conv => whnf
      refine ⟨?_, (i + 1, out), ⟨hlt, by dsimp only; omega, hp⟩, ?_, rfl, rfl, ?_, ?_⟩
      ·exact g0
      ·dsimp only; omega
      ·exact ent
      ·exact ent
  ·replace hc := of_decide_eq_false hc
   have hk : i = L.length := by
    have h : ¬ (i : Int) < L.length := hc
    omega
   subst hk
   rw [← hWl, List.drop_length] at hp
   rw [show linL 0 W = out by rw [← hp]; exact List.append_nil out]
   conv => whnf
   refine ⟨?_, [1000000], ?_⟩
   ·exact g0
   conv => whnf
   refine ⟨rfl, ?_, trivial, ?_⟩ <;> exact ent
end Pv
end Go.Proofs.YtdcgnfkkklbckaaGreatDoor
/- WORDS OF A TEXT: how many, how long. No program in sight. -/
set_option linter.unusedSimpArgs false
set_option linter.unusedVariables false
namespace Go.Proofs.YtdcgnfkkklbckaaGreatDoor
namespace Pv
theorem splitP_len (p : UInt8 → Bool) : ∀ s : List UInt8, (splitP p s).length ≤ s.length + 1 ∧ ∀ x ∈ splitP p s, x.length ≤ s.length
 | [] => by simp [splitP]
 | x :: xs => by
   obtain ⟨h1, h2⟩ := splitP_len p xs
   simp only [splitP]
   split
   ·refine ⟨by simp only [List.length_cons]; omega, fun y hy => ?_⟩
    rcases List.mem_cons.1 hy with rfl | hy
    ·simp
    ·have := h2 y hy; simp only [List.length_cons]; omega
   ·split
    ·simp
    ·rename_i h t he
     rw [he] at h1 h2
     refine ⟨by simp only [List.length_cons] at h1 ⊢; omega, fun y hy => ?_⟩
     rcases List.mem_cons.1 hy with rfl | hy
     ·have := h2 h (List.mem_cons_self ..); simp only [List.length_cons]; omega
     ·have := h2 y (List.mem_cons_of_mem _ hy); simp only [List.length_cons]; omega
theorem splitC_P (c : UInt8) : ∀ s : List UInt8, splitC c s = splitP (fun b => b == c) s
 | [] => rfl
 | x :: xs => by
   simp only [splitC, splitP, splitC_P c xs, beq_iff_eq] <;> (split <;> first | rfl | (cases splitP (fun b => b == c) xs <;> rfl))
theorem wordsB_mem {p : UInt8 → Bool} {s x : List UInt8} (h : x ∈ wordsB p s) : x.length ≤ s.length := (splitP_len p s).2 x (List.mem_filter.1 h).1
theorem wordsB_len (p : UInt8 → Bool) (s : List UInt8) : (wordsB p s).length ≤ s.length + 1 := Nat.le_trans (List.length_filter_le _ _) (splitP_len p s).1
end Pv
end Go.Proofs.YtdcgnfkkklbckaaGreatDoor
/- LAW 13, THE WALKS: a text's conditions. -/
set_option linter.unusedSimpArgs false
set_option linter.unusedVariables false
namespace Go.Proofs.YtdcgnfkkklbckaaGreatDoor
namespace Pv
def c19L1 : C := (.seq (.reg [⟨some 23, 368, none, .bi false .lss (.t 22) (.t 21)⟩])
 (.seq (.cond (.t 23) .skip (.exit 0))
 (.seq (.block 1 (.seq (.reg [⟨some 24, 384, none, .ia 2 (.t 20) (.t 22)⟩,⟨some 25, 400, none, .ld 2 true (.t 24)⟩,⟨some 8, 128, none, .al [(.int .i64 0), (.nil 1)]⟩,⟨none, 0, none, .st 2 (.t 8) (.t 25)⟩])
 (.seq (.reg [⟨some 27, 432, none, .fa 1 (.t 8)⟩,⟨some 28, 448, none, .ld 1 false (.t 27)⟩,⟨some 29, 464, none, .call (.c (.fn (.func 69) [] [])) [(.t 28)]⟩,⟨some 26, 416, none, .mv (.t 29)⟩,⟨some 30, 480, none, .ex (.t 26) 0⟩,⟨some 31, 496, none, .ex (.t 26) 1⟩,⟨some 9, 144, none, .al [(.int .i64 0), (.int .i64 0), (.int .i64 0), (.int .i64 0), (.int .i64 0), (.int .i64 0), (.int .i64 0)]⟩,⟨none, 0, none, .st 7 (.t 9) (.t 30)⟩,⟨some 10, 160, none, .mv (.t 31)⟩])
 (.seq (.seq (.reg [⟨some 32, 512, none, .mv (.t 10)⟩,⟨some 33, 528, none, .un false .not (.t 32)⟩])
 (.cond (.t 33) (.seq (.drw [⟨some 34, 544, none, .fa 0 (.t 8)⟩,⟨some 35, 560, none, .ld 1 false (.t 34)⟩,⟨some 2, 32, none, .mv (.c (.nil 7))⟩,⟨some 3, 48, none, .mv (.t 35)⟩,⟨some 4, 64, none, .mv (.c (.int .i64 7))⟩]
  [(0, 2, 34), (1, 2, 35)])
 .ret) .skip))
 (.seq (.seq (.reg [⟨some 36, 576, none, .ld 7 true (.t 9)⟩,⟨some 37, 592, none, .call (.c (.fn (.func 70) [] [])) [(.t 36)]⟩,⟨some 11, 176, none, .mv (.t 37)⟩])
 (.seq (.reg [⟨some 38, 608, none, .mv (.t 11)⟩,⟨some 39, 624, none, .bi false .neq (.t 38) (.c (.int .i64 0))⟩])
 (.cond (.t 39) (.seq (.drw [⟨some 40, 640, none, .fa 0 (.t 8)⟩,⟨some 41, 656, none, .ld 1 false (.t 40)⟩,⟨some 42, 672, none, .mv (.t 11)⟩,⟨some 2, 32, none, .mv (.c (.nil 7))⟩,⟨some 3, 48, none, .mv (.t 41)⟩,⟨some 4, 64, none, .mv (.t 42)⟩]
  [(0, 2, 40), (0, 3, 40), (1, 2, 41), (1, 3, 41), (2, 3, 42), (2, 4, 42)])
 .ret) .skip)))
 (.reg [⟨some 43, 688, none, .mv (.t 6)⟩,⟨some 44, 704, none, .ld 7 true (.t 9)⟩,⟨some 45, 720, none, .bs 89 7 [(.t 44)]⟩,⟨some 46, 736, none, .app 89 7 56 (.t 43) (.t 45)⟩,⟨some 6, 96, none, .mv (.t 46)⟩]))))))
 (.reg [⟨some 47, 752, none, .bi false .add (.t 22) (.c (.int .i64 1))⟩,⟨some 22, 352, none, .mv (.t 47)⟩]))))
def c19 : C := (.seq (.reg [⟨some 2, 32, none, .mv (.c (.nil 7))⟩,⟨some 3, 48, none, .mv (.c (.int .i64 0))⟩,⟨some 4, 64, none, .mv (.c (.int .i64 0))⟩])
 (.seq (.seq (.reg [⟨some 12, 192, none, .mv (.t 0)⟩,⟨some 13, 208, none, .lens (.t 12)⟩,⟨some 14, 224, none, .bi false .gtr (.t 13) (.c (.int .i64 65536))⟩])
 (.cond (.t 14) (.seq (.reg [⟨some 2, 32, none, .mv (.c (.nil 7))⟩,⟨some 3, 48, none, .mv (.c (.int .i64 0))⟩,⟨some 4, 64, none, .mv (.c (.int .i64 10))⟩])
 .ret) .skip))
 (.seq (.reg [⟨some 15, 240, none, .mv (.t 0)⟩,⟨some 16, 256, none, .call (.c (.fn (.func 68) [] [])) [(.t 15)]⟩,⟨some 5, 80, none, .mv (.t 16)⟩])
 (.seq (.seq (.reg [⟨some 17, 272, none, .mv (.t 5)⟩,⟨some 18, 288, none, .len (.t 17)⟩,⟨some 19, 304, none, .bi false .gtr (.t 18) (.c (.int .i64 200))⟩])
 (.cond (.t 19) (.seq (.reg [⟨some 2, 32, none, .mv (.c (.nil 7))⟩,⟨some 3, 48, none, .mv (.c (.int .i64 0))⟩,⟨some 4, 64, none, .mv (.c (.int .i64 10))⟩])
 .ret) .skip))
 (.seq (.reg [⟨some 6, 96, none, .mv (.c (.nil 7))⟩])
 (.seq (.seq (.reg [⟨some 20, 320, none, .mv (.t 5)⟩,⟨some 21, 336, none, .len (.t 20)⟩,⟨some 22, 352, none, .mv (.c (.int .i64 0))⟩])
 (.block 0 (.loop c19L1)))
 (.seq (.reg [⟨some 48, 768, none, .mv (.t 6)⟩,⟨some 2, 32, none, .mv (.t 48)⟩,⟨some 3, 48, none, .mv (.c (.int .i64 0))⟩,⟨some 4, 64, none, .mv (.c (.int .i64 0))⟩])
 .ret)))))))
theorem fits19 : fits Tryz.prog false Tryz.f19 1 49 [(2, none), (3, none), (4, none)] = some c19.er := by kernel_rfl
theorem linL_mem : ∀ {W : List (List (List UInt8))} {i : Int} {x : Int × List (List UInt8)}, x ∈ linL i W → x.2 ∈ W
 | [], i, x, h => by simp [linL] at h
 | w :: r, i, x, h => by
   unfold linL at h
   split at h
   ·rcases List.mem_cons.1 h with rfl | h
    ·simp
    ·exact List.mem_cons_of_mem _ (linL_mem h)
   ·exact List.mem_cons_of_mem _ (linL_mem h)
theorem linL_len : ∀ (W : List (List (List UInt8))) (i : Int), (linL i W).length ≤ W.length
 | [], i => Nat.le_refl _
 | w :: r, i => by
   have ih := linL_len r (i + 1)
   unfold linL
   split <;> simp only [List.length_cons] <;> omega
theorem linesW_lens {s : List UInt8} (hs : s.length ≤ 65536) : ∀ w ∈ linesW s, wLens w := fun w hw => by
 obtain ⟨y, hy, rfl⟩ := List.mem_map.1 hw
 have h1 := (splitC_len 10 s).2 y hy
 have h2 := wordsB_len isBl y
 exact ⟨by omega, fun x hx => by have := wordsB_mem hx; omega⟩
def parG : List (Int × List (List UInt8)) → List Cd → List Cd × Int × Int
 | [], out => (out, 0, 0)
 | x :: r, out => if (condG x.2).2 = false then ([], x.1, 7) else if oneC (condG x.2).1 ≠ 0 then ([], x.1, oneC (condG x.2).1) else parG r (out ++ [(condG x.2).1])
def parseG (s : List UInt8) : List Cd × Int × Int := if 65536 < s.length then ([], 0, 10) else if 200 < (linL 0 (linesW s)).length then ([], 0, 10) else parG (linL 0 (linesW s)) []
theorem parG_drop {l : List (Int × List (List UInt8))} {i : Nat} (out : List Cd) (h : i < l.length) : parG (l.drop i) out = if (condG (l.getD i default).2).2 = false then ([], (l.getD i default).1, 7) else
  if oneC (condG (l.getD i default).2).1 ≠ 0 then ([], (l.getD i default).1, oneC (condG (l.getD i default).2).1) else parG (l.drop (i + 1)) (out ++ [(condG (l.getD i default).2).1]) := by
 rw [List.drop_eq_getElem_cons h]
 have : l.getD i default = l[i] := by simp [List.getD, h]
 rw [this]; rfl
set_option maxRecDepth 100000 in
set_option maxHeartbeats 8000000 in
theorem call19 (s : List UInt8) (hs : s.length ≤ 4611686018427387904) : PureCall Tryz.prog 19 [.str s] [] ⟨.tup [.sl 0 7 (parseG s).1.length (fl eCd (parseG s).1), .int .i64 (parseG s).2.1, .int .i64 (parseG s).2.2], [], []⟩ := by
 refine pure_call mix Tryz.func19 fits19 rfl ?_
 conv => whnf
 refine ⟨?_, fun hc => ?_, fun hc => ?_⟩
 ·exact g0
 ·simp only [bp] at hc
  rw [show parseG s = ([], 0, 10) by unfold parseG; rw [if_pos (by omega)]]
  conv => whnf
  exact ret
 simp only [bp] at hc
 have hs2 : s.length ≤ 65536 := by omega
 have hlen := linL_len (linesW s) 0
 rw [linesW_len] at hlen
 have hll2 := (splitC_len 10 s).1
 have hmem : ∀ i, i < (linL 0 (linesW s)).length → wLens ((linL 0 (linesW s)).getD i default).2 := fun i hi => linesW_lens hs2 _ (linL_mem (getD_mem hi))
 conv => whnf
 refine ⟨_, fun _ => call68 s hs2, ?_⟩
 conv => whnf
 refine ⟨?_, fun hc2 => ?_, fun hc2 => ?_⟩
 ·exact g0
 ·simp only [bp] at hc2
  rw [show parseG s = ([], 0, 10) by unfold parseG; rw [if_neg (by omega), if_pos (by omega)]]
  conv => whnf
  exact ret
 simp only [bp] at hc2
 rw [show parseG s = parG (linL 0 (linesW s)) [] by unfold parseG; rw [if_neg (by omega), if_neg (by omega)]]
 generalize linL 0 (linesW s) = l at hlen hmem hc2 ⊢
 conv => whnf
 refine ⟨trivial, ?_⟩
 refine LSem.adopt 6 1000000 89 7 7 rfl rfl ?_
 refine LSem.loop (n := 49) mix (α := Nat × List Cd) (fun x => x.1 ≤ l.length ∧ x.2.length ≤ x.1 ∧ parG (l.drop x.1) x.2 = parG l [])
  (fun x => [(6, .os 1000000), (20, .os 256), (21, .int .i64 l.length), (22, .int .i64 x.1)])
  (fun x => [(1000000, .row 0 89 7 x.2.length (fl eCd x.2)), (256, .row 0 183 2 l.length (fl eLn l))]) (fun x => l.length - x.1) (0, []) ?_ ?_ ?_
 ·exact ⟨Nat.zero_le _, Nat.le_refl _, rfl⟩
 ·refine ⟨rfl, rfl, ?_, ?_⟩ <;> exact ent
 ·rintro ⟨i, out⟩ ⟨hi, ho, hp⟩
  dsimp only at hi ho hp
  have hj : ((i : Int)).toNat = i := by omega
  conv => whnf
  refine ⟨trivial, fun hc3 => ?_, fun hc3 => ?_⟩
  ·replace hc3 := of_decide_eq_true hc3
   have hlt : i < l.length := by
    have h : (i : Int) < l.length := hc3
    omega
   have hw := hmem i hlt
   rw [parG_drop out hlt] at hp
   conv => whnf
   dsimp only
   rw [hj]
   refine ⟨_, fun _ => call69 (l.getD i default).2 hw, ?_⟩
   generalize condG (l.getD i default).2 = R at hp ⊢
   generalize (l.getD i default).1 = nu at hp ⊢
   conv => whnf
   refine ⟨?_, fun h1 => ?_, fun h1 => ?_⟩
   ·exact g0
   ·simp only [bp] at h1
    rw [if_pos h1] at hp
    rw [← hp]
    conv => whnf
    refine ⟨rfl, ?_⟩
    conv => whnf
    exact ret
   simp only [bp] at h1
   rw [if_neg (by rw [h1]; decide)] at hp
   conv => whnf
   refine ⟨_, fun _ => call70 R.1, ?_⟩
   conv => whnf
   refine ⟨?_, fun h2 => ?_, fun h2 => ?_⟩
   ·exact g0
   ·simp only [bp] at h2
    rw [if_pos h2] at hp
    rw [← hp]
    conv => whnf
    refine ⟨rfl, ?_⟩
    conv => whnf
    exact ret
   ·simp only [bp] at h2
    rw [if_neg (by omega)] at hp
    have q := fl_push eCd out R.1
    conv => whnf
    refine ⟨?_, (i + 1, out ++ [R.1]), ⟨hlt, by dsimp only; rw [List.length_append]; simp only [List.length_cons, List.length_nil]; omega, hp⟩, ?_, rfl, rfl, ?_, ?_⟩
    ·exact g0
    ·dsimp only; omega
    ·exact ent
    ·exact ent
  ·replace hc3 := of_decide_eq_false hc3
   have hk : i = l.length := by
    have h : ¬ (i : Int) < l.length := hc3
    omega
   subst hk
   rw [List.drop_length] at hp
   have hp2 : (out, (0 : Int), (0 : Int)) = parG l [] := hp
   rw [← hp2]
   conv => whnf
   exact ret
end Pv
end Go.Proofs.YtdcgnfkkklbckaaGreatDoor
/- TOP: awake, run on known values. -/
set_option linter.unusedSimpArgs false
set_option linter.unusedVariables false
namespace Go.Proofs.YtdcgnfkkklbckaaGreatDoor
namespace Pv
def awT : List UInt8 := [114, 97, 110, 107, 32, 49, 32, 109, 111, 115, 116, 32, 51, 48, 10, 114, 97, 110, 107, 32, 50, 32, 108, 101, 97, 115, 116, 32, 53, 48, 10]
def awL : List Cd := [⟨1, 2, 30, 0, 364, 0, 16777216⟩, ⟨2, 1, 50, 0, 364, 0, 16777216⟩]
theorem awake_text : parseG awT = (awL, 0, 0) := by decide +kernel
theorem aw_choose : relF (choL awL 0 150 0 0 1073741824) 90 = 30 ∧ (choL awL 0 150 0 0 1073741824).lo = 0 ∧ (choL awL 0 150 0 0 1073741824).hi = 30 ∧ (choL awL 0 150 0 0 1073741824).ys = [(1, 0)] := by decide +kernel
def numsI : List PV → Option (List Int)
 | [] => some []
 | .int .i64 n :: l => match numsI l with
   | some r => some (n :: r)
   | none => none
 | _ => none
theorem numsI_ok : ∀ {l : List PV} {r : List Int}, numsI l = some r → l = r.map fun n => .int .i64 n
 | [], r, h => by simp [numsI] at h; subst h; rfl
 | p :: l, r, h => by
   unfold numsI at h
   split at h
   ·rename_i e; cases e
   ·rename_i n l' e
    injection e with e1 e2
    subst e1; subst e2
    split at h
    ·rename_i r' hr
     injection h with h; subst h
     rw [numsI_ok hr]; rfl
    ·cases h
   ·cases h
def awO : Orc → Orc := fun _ f args bs => match f, args, bs with
 | 19, [.str s], [] => if s = awT then some ⟨.tup [.sl 0 7 2 (fl eCd awL), .int .i64 0, .int .i64 0], [], []⟩ else none
 | 22, [.sl 1 7 2 g, .int .i64 d, .int .i64 v, .int .i64 b, .agg [.int .i64 lo, .int .i64 hi], .int .i64 w], [] =>
   if (numsI (g 0) = some [1, 2, 30, 0, 364, 0, 16777216] ∧ numsI (g 1) = some [2, 1, 50, 0, 364, 0, 16777216]) ∧ (d = 0 ∧ v = 150 ∧ b = 0 ∧ lo = 0 ∧ hi = 1073741824 ∧ w = 90) then
    some ⟨.tup [.agg [.int .i64 30, .int .i64 0, .int .i64 30, .sl 0 2 1 (fl eYd [(1, 0)])], .int .i64 0], [], []⟩ else none
 | _, _, _ => none
theorem awO_ok (R : Orc) : OrcOK Tryz.prog (awO R) := fun f args bs c h => by
 unfold awO at h
 split at h
 ·split at h
  ·rename_i hs
   injection h with h; subst h; subst hs
   have := call19 awT (by decide)
   rw [awake_text] at this
   exact this
  ·cases h
 ·split at h
  ·rename_i g d v b lo hi w hs
   injection h with h; subst h
   obtain ⟨⟨h0, h1⟩, rfl, rfl, rfl, rfl, rfl, rfl⟩ := hs
   obtain ⟨c1, c2, c3, c4⟩ := aw_choose
   have := call22 awL 0 150 0 0 1073741824 90 (by decide) (by decide +kernel) (by decide) (by decide) (by decide) (by decide) (by decide) (by decide) (by decide)
   rw [c1, c2, c3, c4] at this
   refine PureCall.arg_le this rfl ?_
   have hr : RowEq 2 g (fl eCd awL) := fun i hi => by
    match i, hi with
    | 0, _ => rw [numsI_ok h0]; rfl
    | 1, _ => rw [numsI_ok h1]; rfl
   exact ent
  ·cases h
 ·cases h
def awH : Code → PS → Option PS := fun _ _ => none
end Pv
end Go.Proofs.YtdcgnfkkklbckaaGreatDoor
/- TOP: awake, run on known values. -/
set_option linter.unusedSimpArgs false
set_option linter.unusedVariables false
namespace Go.Proofs.YtdcgnfkkklbckaaGreatDoor
namespace Pv
theorem call16 : PureCall Tryz.prog 16 [] [] ⟨.bool true, [], []⟩ := by
 have h : runF Tryz.prog awO awH 1000 20 16 [] [] = some ⟨.bool true, [], []⟩ := by kernel_rfl
 exact runF_ok mix (fun R _ => awO_ok R) (fun _ _ _ _ h => by cases h) 20 16 [] [] _ h
end Pv
end Go.Proofs.YtdcgnfkkklbckaaGreatDoor
/- TOP: TopShared. -/
set_option linter.unusedSimpArgs false
set_option linter.unusedVariables false
namespace Go.Proofs.YtdcgnfkkklbckaaGreatDoor
namespace Pv
def c46 : C := (.seq (.reg [⟨some 6, 96, none, .mv (.c (.nil 1))⟩,⟨some 7, 112, none, .mv (.c (.int .i64 0))⟩])
 (.seq (.seq (.reg [⟨some 9, 144, none, .mv (.t 0)⟩,⟨some 10, 160, none, .mv (.t 2)⟩,⟨some 11, 176, none, .mv (.t 1)⟩,⟨some 12, 192, none, .call (.c (.fn (.func 109) [] [])) [(.t 9), (.t 10), (.t 11), (.c (.int .i64 1073741824))]⟩,⟨some 8, 128, none, .mv (.t 12)⟩])
 (.seq (.reg [⟨some 13, 208, none, .mv (.t 8)⟩,⟨some 14, 224, none, .bi false .neq (.t 13) (.c (.int .i64 0))⟩])
 (.cond (.t 14) (.seq (.reg [⟨some 15, 240, none, .mv (.t 8)⟩,⟨some 6, 96, none, .mv (.c (.nil 1))⟩,⟨some 7, 112, none, .mv (.t 15)⟩])
 .ret) .skip)))
 (.seq (.reg [⟨some 16, 256, none, .mv (.t 0)⟩,⟨some 17, 272, none, .mv (.t 1)⟩,⟨some 18, 288, none, .mv (.t 2)⟩,⟨some 19, 304, none, .call (.c (.fn (.func 110) [] [])) [(.t 16), (.t 17), (.t 18)]⟩,⟨some 6, 96, none, .mv (.t 19)⟩,⟨some 7, 112, none, .mv (.c (.int .i64 0))⟩])
 .ret)))
theorem fits46 : fits Tryz.prog false Tryz.f46 3 20 [(6, none), (7, none)] = some c46.er := by kernel_rfl
def c6L1 : C := (.seq (.reg [⟨some 109, 1744, none, .bi false .lss (.t 108) (.t 107)⟩])
 (.seq (.cond (.t 109) .skip (.exit 0))
 (.seq (.block 1 (.seq (.reg [⟨some 110, 1760, none, .mv (.t 108)⟩,⟨some 17, 272, none, .mv (.t 110)⟩])
 (.seq (.reg [⟨some 111, 1776, none, .mv (.t 16)⟩,⟨some 112, 1792, none, .mv (.t 12)⟩,⟨some 113, 1808, none, .mv (.t 17)⟩,⟨some 114, 1824, none, .ia 1 (.t 112) (.t 113)⟩,⟨some 115, 1840, none, .ld 1 false (.t 114)⟩,⟨some 116, 1856, none, .bi false .add (.t 111) (.t 115)⟩,⟨some 16, 256, none, .mv (.t 116)⟩])
 (.seq (.drw [⟨some 117, 1872, none, .mv (.t 12)⟩,⟨some 118, 1888, none, .mv (.t 17)⟩,⟨some 119, 1904, none, .ia 1 (.t 117) (.t 118)⟩,⟨some 120, 1920, none, .ld 1 false (.t 119)⟩,⟨some 121, 1936, none, .mv (.t 14)⟩,⟨some 122, 1952, none, .mv (.t 17)⟩,⟨some 123, 1968, none, .ia 1 (.t 121) (.t 122)⟩,⟨some 124, 1984, none, .ld 1 false (.t 123)⟩,⟨some 125, 2000, none, .bi false .neq (.t 120) (.t 124)⟩]
  [(0, 1, 117), (0, 4, 117), (0, 5, 117), (0, 6, 117), (0, 7, 117), (1, 4, 118), (1, 5, 118), (1, 6, 118), (1, 7, 118), (2, 4, 119), (2, 5, 119), (2, 6, 119), (2, 7, 119), (3, 4, 120), (3, 5, 120), (3, 6, 120), (3, 7, 120), (4, 5, 121)])
 (.cond (.t 125) (.seq (.reg [⟨some 2, 32, none, .mv (.c (.bool false))⟩])
 .ret) .skip)))))
 (.reg [⟨some 126, 2016, none, .bi false .add (.t 108) (.c (.int .i64 1))⟩,⟨some 108, 1728, none, .mv (.t 126)⟩]))))
def c6 : C := (.seq (.reg [⟨some 2, 32, none, .mv (.c (.bool false))⟩])
 (.seq (.reg [⟨some 27, 432, none, .mv (.t 0)⟩,⟨some 28, 448, none, .call (.c (.fn (.func 7) [] [])) [(.t 27)]⟩,⟨some 3, 48, none, .mv (.t 28)⟩])
 (.seq (.reg [⟨some 29, 464, none, .mv (.t 3)⟩,⟨some 30, 480, none, .call (.c (.fn (.func 43) [] [])) [(.t 29)]⟩,⟨some 4, 64, none, .al [(.int .i64 0), (.nil 2), (.bool false)]⟩,⟨none, 0, none, .st 3 (.t 4) (.t 30)⟩])
 (.seq (.reg [⟨some 31, 496, none, .fa 2 (.t 4)⟩,⟨none, 0, none, .st 1 (.t 31) (.c (.bool false))⟩])
 (.seq (.reg [⟨some 32, 512, none, .mv (.t 3)⟩,⟨some 33, 528, none, .call (.c (.fn (.func 44) [] [])) [(.t 32)]⟩,⟨some 5, 80, none, .mv (.t 33)⟩])
 (.seq (.reg [⟨some 34, 544, none, .mv (.t 3)⟩,⟨some 35, 560, none, .call (.c (.fn (.func 12) [] [])) [(.t 34), (.c (.int .i64 365))]⟩,⟨some 6, 96, none, .mv (.t 35)⟩])
 (.seq (.drw [⟨some 36, 576, none, .fa 0 (.t 4)⟩,⟨some 37, 592, none, .ld 1 false (.t 36)⟩,⟨some 38, 608, none, .mv (.t 3)⟩,⟨some 39, 624, none, .fa 1 (.t 4)⟩,⟨some 40, 640, none, .ld 1 false (.t 39)⟩,⟨some 41, 656, none, .ia 2 (.t 40) (.c (.int .i64 0))⟩,⟨some 42, 672, none, .fa 1 (.t 41)⟩,⟨some 43, 688, none, .ld 1 false (.t 42)⟩,⟨some 44, 704, none, .len (.t 43)⟩,⟨some 45, 720, none, .call (.c (.fn (.func 12) [] [])) [(.t 38), (.t 44)]⟩,⟨some 46, 736, none, .bi false .add (.t 37) (.t 45)⟩,⟨some 7, 112, none, .mv (.t 46)⟩]
  [(0, 2, 36), (0, 3, 36), (0, 4, 36), (0, 5, 36), (0, 6, 36), (0, 7, 36), (0, 8, 36), (0, 9, 36), (1, 2, 37), (1, 3, 37), (1, 4, 37), (1, 5, 37), (1, 6, 37), (1, 7, 37), (1, 8, 37), (1, 9, 37), (2, 3, 38), (2, 4, 38), (2, 5, 38), (2, 6, 38), (2, 7, 38), (2, 8, 38)])
 (.seq (.reg [⟨some 48, 768, none, .ld 3 true (.t 4)⟩,⟨some 49, 784, none, .mv (.t 7)⟩,⟨some 50, 800, none, .call (.c (.fn (.func 45) [] [])) [(.t 48), (.t 49), (.c (.int .i64 1)), (.c (.int .i64 4))]⟩,⟨some 47, 752, none, .mv (.t 50)⟩,⟨some 51, 816, none, .ex (.t 47) 0⟩,⟨some 52, 832, none, .ex (.t 47) 1⟩,⟨some 8, 128, none, .mv (.t 51)⟩,⟨some 9, 144, none, .mv (.t 52)⟩])
 (.seq (.reg [⟨some 54, 864, none, .ld 3 true (.t 4)⟩,⟨some 55, 880, none, .mv (.t 7)⟩,⟨some 56, 896, none, .call (.c (.fn (.func 45) [] [])) [(.t 54), (.t 55), (.c (.int .i64 1)), (.c (.int .i64 1))]⟩,⟨some 53, 848, none, .mv (.t 56)⟩,⟨some 57, 912, none, .ex (.t 53) 0⟩,⟨some 58, 928, none, .ex (.t 53) 1⟩,⟨some 10, 160, none, .mv (.t 57)⟩,⟨some 11, 176, none, .mv (.t 58)⟩])
 (.seq (.reg [⟨some 60, 960, none, .mv (.t 5)⟩,⟨some 61, 976, none, .mv (.t 8)⟩,⟨some 62, 992, none, .mv (.t 6)⟩,⟨some 63, 1008, none, .call (.c (.fn (.func 46) [] [])) [(.t 60), (.t 61), (.t 62)]⟩,⟨some 59, 944, none, .mv (.t 63)⟩,⟨some 64, 1024, none, .ex (.t 59) 0⟩,⟨some 65, 1040, none, .ex (.t 59) 1⟩,⟨some 12, 192, none, .mv (.t 64)⟩,⟨some 13, 208, none, .mv (.t 65)⟩])
 (.seq (.reg [⟨some 67, 1072, none, .mv (.t 5)⟩,⟨some 68, 1088, none, .app 134 4 32 (.c (.nil 4)) (.t 67)⟩,⟨some 69, 1104, none, .bd [(.int .i64 0), (.int .i64 0)] [(1, 1, (.c (.int .i64 364)))]⟩,⟨some 70, 1120, none, .bd [(.int .i64 0), (.int .i64 0), (.int .i64 0), (.int .i64 0)] [(0, 1, (.c (.int .i64 400))), (1, 1, (.c (.int .i64 50))), (2, 2, (.t 69))]⟩,⟨some 71, 1136, none, .bs 134 4 [(.t 70)]⟩,⟨some 72, 1152, none, .app 134 4 32 (.t 68) (.t 71)⟩,⟨some 73, 1168, none, .mv (.t 8)⟩,⟨some 74, 1184, none, .mv (.t 6)⟩,⟨some 75, 1200, none, .call (.c (.fn (.func 46) [] [])) [(.t 72), (.t 73), (.t 74)]⟩,⟨some 66, 1056, none, .mv (.t 75)⟩,⟨some 76, 1216, none, .ex (.t 66) 0⟩,⟨some 77, 1232, none, .ex (.t 66) 1⟩,⟨some 14, 224, none, .mv (.t 76)⟩,⟨some 15, 240, none, .mv (.t 77)⟩])
 (.seq (.seq (.reg [⟨some 78, 1248, none, .mv (.t 9)⟩,⟨some 79, 1264, none, .mv (.t 11)⟩,⟨some 80, 1280, none, .bi false .add (.t 78) (.t 79)⟩,⟨some 81, 1296, none, .mv (.t 13)⟩,⟨some 82, 1312, none, .bi false .add (.t 80) (.t 81)⟩,⟨some 83, 1328, none, .mv (.t 15)⟩,⟨some 84, 1344, none, .bi false .add (.t 82) (.t 83)⟩,⟨some 85, 1360, none, .bi false .neq (.t 84) (.c (.int .i64 0))⟩,⟨some 86, 1376, none, .mv (.t 85)⟩,⟨some 87, 1392, (some (86, false)), .mv (.t 8)⟩,⟨some 88, 1408, (some (86, false)), .mv (.t 10)⟩,⟨some 89, 1424, (some (86, false)), .bi false .gtr (.t 87) (.t 88)⟩,⟨some 90, 1440, none, .pick (.t 86) (.c (.bool true)) (.t 89)⟩,⟨some 91, 1456, none, .mv (.t 90)⟩,⟨some 92, 1472, (some (91, false)), .mv (.t 12)⟩,⟨some 93, 1488, (some (91, false)), .len (.t 92)⟩,⟨some 94, 1504, (some (91, false)), .mv (.t 5)⟩,⟨some 95, 1520, (some (91, false)), .len (.t 94)⟩,⟨some 96, 1536, (some (91, false)), .bi false .neq (.t 93) (.t 95)⟩,⟨some 97, 1552, none, .pick (.t 91) (.c (.bool true)) (.t 96)⟩,⟨some 98, 1568, none, .mv (.t 97)⟩,⟨some 99, 1584, (some (98, false)), .mv (.t 14)⟩,⟨some 100, 1600, (some (98, false)), .len (.t 99)⟩,⟨some 101, 1616, (some (98, false)), .mv (.t 5)⟩,⟨some 102, 1632, (some (98, false)), .len (.t 101)⟩,⟨some 103, 1648, (some (98, false)), .bi false .add (.t 102) (.c (.int .i64 1))⟩,⟨some 104, 1664, (some (98, false)), .bi false .neq (.t 100) (.t 103)⟩,⟨some 105, 1680, none, .pick (.t 98) (.c (.bool true)) (.t 104)⟩])
 (.cond (.t 105) (.seq (.reg [⟨some 2, 32, none, .mv (.c (.bool false))⟩])
 .ret) .skip))
 (.seq (.reg [⟨some 16, 256, none, .mv (.c (.int .i64 0))⟩])
 (.seq (.seq (.reg [⟨some 106, 1696, none, .mv (.t 12)⟩,⟨some 107, 1712, none, .len (.t 106)⟩,⟨some 108, 1728, none, .mv (.c (.int .i64 0))⟩])
 (.block 0 (.loop c6L1)))
 (.seq (.reg [⟨some 127, 2032, none, .mv (.t 3)⟩,⟨some 128, 2048, none, .call (.c (.fn (.func 12) [] [])) [(.t 127), (.c (.int .i64 30))]⟩,⟨some 129, 2064, none, .mv (.t 3)⟩,⟨some 130, 2080, none, .call (.c (.fn (.func 12) [] [])) [(.t 129), (.c (.int .i64 6))]⟩,⟨some 131, 2096, none, .mv (.t 3)⟩,⟨some 132, 2112, none, .call (.c (.fn (.func 12) [] [])) [(.t 131), (.c (.int .i64 6))]⟩,⟨some 133, 2128, none, .mv (.t 3)⟩,⟨some 134, 2144, none, .call (.c (.fn (.func 12) [] [])) [(.t 133), (.c (.int .i64 6))]⟩,⟨some 18, 288, none, .mv (.t 128)⟩,⟨some 19, 304, none, .mv (.t 130)⟩,⟨some 20, 320, none, .mv (.t 132)⟩,⟨some 21, 336, none, .mv (.t 134)⟩])
 (.seq (.reg [⟨some 136, 2176, none, .mv (.t 18)⟩,⟨some 137, 2192, none, .mv (.t 19)⟩,⟨some 138, 2208, none, .mv (.t 20)⟩,⟨some 139, 2224, none, .mv (.t 21)⟩,⟨some 140, 2240, none, .call (.c (.fn (.func 47) [] [])) [(.t 136), (.t 137), (.t 138), (.t 139)]⟩,⟨some 135, 2160, none, .mv (.t 140)⟩,⟨some 141, 2256, none, .ex (.t 135) 0⟩,⟨some 142, 2272, none, .ex (.t 135) 1⟩,⟨some 22, 352, none, .al [(.int .i64 0), (.int .i64 0)]⟩,⟨none, 0, none, .st 2 (.t 22) (.t 141)⟩,⟨some 23, 368, none, .mv (.t 142)⟩])
 (.seq (.reg [⟨some 144, 2304, none, .mv (.t 18)⟩,⟨some 145, 2320, none, .mv (.t 16)⟩,⟨some 146, 2336, none, .mv (.t 19)⟩,⟨some 147, 2352, none, .mv (.t 20)⟩,⟨some 148, 2368, none, .mv (.t 21)⟩,⟨some 149, 2384, none, .call (.c (.fn (.func 48) [] [])) [(.t 144), (.t 145), (.t 146), (.t 147), (.t 148)]⟩,⟨some 143, 2288, none, .mv (.t 149)⟩,⟨some 150, 2400, none, .ex (.t 143) 0⟩,⟨some 151, 2416, none, .ex (.t 143) 1⟩,⟨some 24, 384, none, .mv (.t 150)⟩,⟨some 25, 400, none, .mv (.t 151)⟩])
 (.seq (.seq (.reg [⟨some 152, 2432, none, .mv (.t 23)⟩,⟨some 153, 2448, none, .mv (.t 25)⟩,⟨some 154, 2464, none, .bi false .add (.t 152) (.t 153)⟩,⟨some 155, 2480, none, .bi false .neq (.t 154) (.c (.int .i64 0))⟩,⟨some 156, 2496, none, .mv (.t 155)⟩,⟨some 157, 2512, (some (156, false)), .mv (.t 24)⟩,⟨some 158, 2528, (some (156, false)), .len (.t 157)⟩,⟨some 159, 2544, (some (156, false)), .mv (.t 21)⟩,⟨some 160, 2560, (some (156, false)), .bi false .neq (.t 158) (.t 159)⟩,⟨some 161, 2576, none, .pick (.t 156) (.c (.bool true)) (.t 160)⟩,⟨some 162, 2592, none, .mv (.t 161)⟩,⟨some 163, 2608, (some (162, false)), .mv (.t 16)⟩,⟨some 164, 2624, (some (162, false)), .mv (.t 8)⟩,⟨some 165, 2640, (some (162, false)), .bi false .gtr (.t 163) (.t 164)⟩,⟨some 166, 2656, none, .pick (.t 162) (.c (.bool true)) (.t 165)⟩])
 (.cond (.t 166) (.seq (.reg [⟨some 2, 32, none, .mv (.c (.bool false))⟩])
 .ret) .skip))
 (.seq (.reg [⟨some 167, 2672, none, .mv (.t 18)⟩,⟨some 26, 416, none, .mv (.t 167)⟩])
 (.seq (.seq (.reg [⟨some 168, 2688, none, .mv (.t 21)⟩,⟨some 169, 2704, none, .bi false .gtr (.t 168) (.c (.int .i64 0))⟩])
 (.cond (.t 169) (.reg [⟨some 170, 2720, none, .mv (.t 24)⟩,⟨some 171, 2736, none, .mv (.t 21)⟩,⟨some 172, 2752, none, .bi false .sub (.t 171) (.c (.int .i64 1))⟩,⟨some 173, 2768, none, .ia 1 (.t 170) (.t 172)⟩,⟨some 174, 2784, none, .ld 1 false (.t 173)⟩,⟨some 26, 416, none, .mv (.t 174)⟩]) .skip))
 (.seq (.reg [⟨some 175, 2800, none, .mv (.t 26)⟩,⟨some 176, 2816, none, .mv (.t 16)⟩,⟨some 177, 2832, none, .bi false .eql (.t 175) (.t 176)⟩,⟨some 178, 2848, none, .mv (.t 16)⟩,⟨some 179, 2864, none, .fa 0 (.t 22)⟩,⟨some 180, 2880, none, .ld 1 false (.t 179)⟩,⟨some 181, 2896, none, .bi false .geq (.t 178) (.t 180)⟩,⟨some 182, 2912, none, .mv (.t 181)⟩,⟨some 183, 2928, (some (182, true)), .mv (.t 16)⟩,⟨some 184, 2944, (some (182, true)), .fa 1 (.t 22)⟩,⟨some 185, 2960, (some (182, true)), .ld 1 false (.t 184)⟩,⟨some 186, 2976, (some (182, true)), .bi false .leq (.t 183) (.t 185)⟩,⟨some 187, 2992, none, .pick (.t 182) (.t 186) (.c (.bool false))⟩,⟨some 188, 3008, none, .bib false (.t 177) (.t 187)⟩,⟨some 189, 3024, none, .mv (.t 188)⟩,⟨some 190, 3040, (some (189, true)), .call (.c (.fn (.func 16) [] [])) []⟩,⟨some 191, 3056, none, .pick (.t 189) (.t 190) (.c (.bool false))⟩,⟨some 2, 32, none, .mv (.t 191)⟩])
 .ret)))))))))))))))))))))
theorem fits6 : fits Tryz.prog false Tryz.f6 1 192 [(2, none)] = some c6.er := by kernel_rfl
theorem call46 (τ : Nat) (l : List Rt) (hl : l.length ≤ 7) (hv : ∀ i, i < l.length → RtV (l.getD i default)) (av day : Int) (hav : wi av 1073741824 = true) (hd : wi day 364 = true) :
  PureCall Tryz.prog 46 [.sl τ 4 l.length (fl eRt l), .int .i64 av, .int .i64 day] [] ⟨.tup [.sl 0 1 l.length (fl eInt ((List.range l.length).map (allotF l av day))), .int .i64 0], [], []⟩ := by
 have h1 := (wi_iff _ _).1 hav
 refine pure_call mix Tryz.func46 fits46 rfl ?_
 conv => whnf
 refine ⟨_, fun _ => call109 _ l (by omega) hv day av hd hav, ?_⟩
 conv => whnf
 refine ⟨?_, fun hc => (by cases hc), fun _ => ?_⟩
 ·exact g0
 conv => whnf
 refine ⟨_, fun _ => call110 _ l hl hv av day (by omega), ?_⟩
 conv => whnf
 refine ⟨?_, [], ?_⟩
 ·exact g0
 conv => whnf
 refine ⟨rfl, ?_, trivial, trivial⟩
 all_goals repeat' (first | exact True.intro | refine leF_cons rfl ?_ ?_ | refine leS_cons rfl ?_ ?_ | (show PLe _ _ _ _; conv => whnf) | (show SLe _ _ _ _; conv => whnf) | (show PLeL _ _ _ _; conv => whnf) | apply And.intro | rfl | exact Nat.le_refl _ | exact fun _ _ => rfl | exact rowEq0 _ _)
theorem scV_of {n : Nat} {s : Sc} (h : ScOK n s) : ScV n s := ⟨by have := h.w; omega, h.n, fun x hx => by
 obtain ⟨k, hk, rfl⟩ := mem_getD hx
 have := h.f k hk
 exact (wi_iff _ _).2 (by omega)⟩
theorem rtV_of {r : Rt} (h : RtOK r) : RtV r := by
 obtain ⟨h1, h2, h3, h4⟩ := h
 exact ⟨(wi_iff _ _).2 (by omega), (wi_iff _ _).2 (by omega), by rw [Bool.and_eq_true]; exact ⟨(wi_iff _ _).2 (by omega), (wi_iff _ _).2 (by omega)⟩⟩
theorem wayF_last (b t up down : Int) (n : Nat) (h : 0 < n) : (wayF b t up down n).getD (n - 1) default = towN b t up down n := by
 unfold wayF
 rw [getD_map_range (f := fun k => towN b t up down (k + 1)) (show n - 1 < n by omega)]
 rw [show n - 1 + 1 = n by omega]
def rtY : Rt := ⟨400, 50, 0, 364⟩
set_option maxRecDepth 100000 in
set_option maxHeartbeats 8000000 in
theorem call6 (l : List Int) : PureCall Tryz.prog 6 [.sl 1 1 l.length (fl eInt l)] [] ⟨.bool true, [], []⟩ := by
 refine pure_call mix Tryz.func6 fits6 rfl ?_
 conv => whnf
 refine ⟨_, fun _ => call_new 1 l, ?_⟩
 conv => whnf
 refine ⟨_, fun _ => call43 ⟨l, 0⟩ (by dsimp only; omega), ?_⟩
 obtain ⟨hN, ⟨hK1, hK2, hK3⟩, hS, hat⟩ := bun_ok ⟨l, 0⟩
 have r1 := nxt_lt ⟨l, 0⟩ (n := 20) (by omega)
 generalize bunN ⟨l, 0⟩ = N at hN hS ⊢
 generalize bunK ⟨l, 0⟩ = K at hK1 hK2 hK3 ⊢
 generalize bunS ⟨l, 0⟩ = S at hK1 hS hat ⊢
 generalize (nxt (nxtD ⟨l, 0⟩ 20) 8 == 7) = wd
 generalize nxt ⟨l, 0⟩ 20 = fr at r1 ⊢
 obtain ⟨B, d1⟩ := S
 dsimp only at hK1 hS hat ⊢
 conv => whnf
 refine ⟨_, fun _ => call44 d1 (by omega), ?_⟩
 obtain ⟨hR1, hR2, hR3⟩ := rtsF_ok d1
 generalize rtsF d1 = G at hR1 hR2 hR3 ⊢
 obtain ⟨Q, d2⟩ := G
 dsimp only at hR1 hR2 hR3 ⊢
 conv => whnf
 refine ⟨_, fun _ => call_next 1 d2 365 (by omega) (by decide), ?_⟩
 have r2 := nxt_lt d2 (n := 365) (by omega)
 have a2 := nxtD_at d2 365
 generalize nxt d2 365 = day at r2 ⊢
 generalize nxtD d2 365 = d3 at a2 ⊢
 have hB0 := (hS 0 (by omega)).n
 conv => whnf
 refine ⟨_, fun _ => call_next 1 d3 ((B.getD 0 default).f.length : Int) (by omega) (by omega), ?_⟩
 have r3 := nxt_lt d3 (n := ((B.getD 0 default).f.length : Int)) (by omega)
 have a3 := nxtD_at d3 ((B.getD 0 default).f.length : Int)
 obtain ⟨t, ht⟩ : ∃ t : Nat, (t : Int) = nxt d3 ((B.getD 0 default).f.length : Int) := ⟨(nxt d3 ((B.getD 0 default).f.length : Int)).toNat, by omega⟩
 rw [← ht] at r3 ⊢
 clear ht
 generalize nxtD d3 ((B.getD 0 default).f.length : Int) = d4 at a3 ⊢
 conv => whnf
 refine ⟨rfl, ?_⟩
 have hv : BnV fr B N := ⟨(wi_iff _ _).2 (by omega), by omega, by omega, fun i hi => scV_of (hS i hi)⟩
 obtain ⟨ka, kb, ha1, hb1, ⟨ha2, ha3⟩, ⟨hb2, hb3⟩, hle⟩ := qua_le (w := wtS B) (rk := rkS B t) (g := fun k => (k : Int)) (n := B.length) (by omega) (fun k hk => by have := (hS k hk).w; show 0 ≤ (B.getD k default).w; omega)
 rw [show insN (rkS B t) (fun k => (k : Int)) B.length = gS B t from rfl] at ha2 ha3 hb2 hb3 hle
 rw [← sumW_eq] at ha2 ha3 hb2 hb3
 have h4 := call45 N t ka fr 4 B hv (by omega) (by omega) (by omega) ha1 ha2 ha3
 have h1 := call45 N t kb fr 1 B hv (by omega) (by omega) (by omega) hb1 hb2 hb3
 have hgin : ∀ j, j < B.length → 0 ≤ gS B t j ∧ gS B t j < B.length := insN_in (p := fun x => 0 ≤ x ∧ x < B.length) _ (fun k hk => by omega) _ (Nat.le_refl _)
 have hq : ∀ j, j < B.length → 0 ≤ rkS B t (gS B t j) ∧ rkS B t (gS B t j) ≤ 11 := fun j hj => by
  have hg := hgin j hj
  have ho := hS (gS B t j).toNat (by omega)
  exact ho.f t (by rw [ho.n]; omega)
 have hqa := hq ka ha1
 have hqb := hq kb hb1
 clear hq hgin ha2 ha3 hb2 hb3 ha1 hb1
 generalize rkS B t (gS B t ka) = q at hle hqa h4
 generalize rkS B t (gS B t kb) = best at hle hqb h1
 have h4' : PureCall Tryz.prog 45 [.agg (eBn 1 fr B false), .int .i64 (fr + t), .int .i64 1, .int .i64 4] [] _ := PureCall.arg_le h4 rfl (by exact ent)
 have h1' : PureCall Tryz.prog 45 [.agg (eBn 1 fr B false), .int .i64 (fr + t), .int .i64 1, .int .i64 1] [] _ := PureCall.arg_le h1 rfl (by exact ent)
 conv => whnf
 refine ⟨_, fun _ => h4', ?_⟩
 conv => whnf
 refine ⟨_, fun _ => h1', ?_⟩
 clear h4 h1 h4' h1' hv
 have hqw : wi q 1073741824 = true := (wi_iff _ _).2 (by omega)
 have hdw : wi day 364 = true := (wi_iff _ _).2 (by omega)
 have hRv : ∀ i, i < Q.length → RtV (Q.getD i default) := fun i hi => rtV_of (hR2 i hi)
 have hRv2 : ∀ i, i < (Q ++ [rtY]).length → RtV ((Q ++ [rtY]).getD i default) := getD_pushC hRv ⟨rfl, rfl, rfl⟩
 have q2 := fl_push eRt Q rtY
 have hlen2 : (Q ++ [rtY]).length = Q.length + 1 := by simp
 have h46 := call46 2 (Q ++ [rtY]) (by omega) hRv2 q day hqw hdw
 have hrw : ∀ i, 0 ≤ (rtA Q i).w := fun i => by
  by_cases hi : i.toNat < Q.length
  ·exact (hR2 i.toNat hi).w.1
  ·unfold rtA
   rw [List.getD_eq_getElem?_getD, List.getElem?_eq_none (by omega)]
   exact Int.le_refl _
 have hsum := allot_sum hrw hqa.1 day
 have happ := allot_app (l := Q) (r := rtY) (day := day) (by
  have : wi day 364 = true := hdw
  unfold inSp
  show ((wi 0 364 && wi 364 364) && wi day 364 && (if (0 : Int) ≤ 364 then decide (0 ≤ day) && decide (day ≤ 364) else decide (0 ≤ day) || decide (day ≤ 364))) = true
  rw [this, if_pos (by omega), decide_eq_true (show 0 ≤ day by omega), decide_eq_true (show day ≤ 364 by omega)]
  rfl) (fun i h0 h1 => by
  have := (hR2 i.toNat (by omega)).d
  show (Q.getD i.toNat default).d < 400
  omega) q
 have hX : ∀ k, k < Q.length → ((List.range Q.length).map (allotF Q q day)).getD k default = allotF Q q day k := fun k hk => getD_map_range hk
 have hY : ∀ k, k < Q.length → ((List.range (Q ++ [rtY]).length).map (allotF (Q ++ [rtY]) q day)).getD k default = allotF Q q day k := fun k hk => by
  rw [getD_map_range (f := allotF (Q ++ [rtY]) q day) (show k < (Q ++ [rtY]).length by omega)]
  exact happ k hk
 conv => whnf
 refine ⟨_, fun _ => call46 _ Q (by omega) hRv q day hqw hdw, ?_⟩
 generalize (List.range Q.length).map (allotF Q q day) = X at hX ⊢
 generalize (List.range (Q ++ [rtY]).length).map (allotF (Q ++ [rtY]) q day) = Y at hY h46
 have h46' : PureCall Tryz.prog 46 [.sl 2 4 (Q.length + 1) (appF Q.length (fl eRt Q) (fun i => [eRt rtY].getD i [])), .int .i64 q, .int .i64 day] [] _ := PureCall.arg_le h46 rfl (by exact ent)
 clear h46 q2 hRv hRv2 happ
 conv => whnf
 refine ⟨_, fun _ => h46', ?_⟩
 clear h46'
 conv => whnf
 refine ⟨?_, fun hc => ?_, fun _ => ?_⟩
 ·exact g0
 ·simp only [bp] at hc
  omega
 conv => whnf
 refine ⟨trivial, ?_⟩
 refine LSem.loop (n := 192) mix (α := Nat) (fun i => i ≤ Q.length)
  (fun i => [(3, .pt 448 0 0), (8, .int .i64 q), (12, .sl 0 1 Q.length (fl eInt X)), (14, .sl 0 1 (Q ++ [rtY]).length (fl eInt Y)), (16, .int .i64 (sumN (allotF Q q day) i)), (107, .int .i64 Q.length), (108, .int .i64 i)])
  (fun i => [(448, .box (eDk 1 d4))]) (fun i => Q.length - i) 0 ?_ ?_ ?_
 ·exact Nat.zero_le _
 ·refine ⟨rfl, rfl, ?_, ?_⟩
  all_goals repeat' (first | exact True.intro | refine leF_cons rfl ?_ ?_ | refine leS_cons rfl ?_ ?_ | (show PLe _ _ _ _; conv => whnf) | (show SLe _ _ _ _; conv => whnf) | (show PLeL _ _ _ _; conv => whnf) | apply And.intro | rfl | exact Nat.le_refl _ | exact fun _ _ => rfl | exact rowEq0 _ _)
 ·intro i hi
  have e1 : ((i : Int)).toNat = i := by omega
  conv => whnf
  refine ⟨trivial, fun hc => ?_, fun hc => ?_⟩
  ·replace hc := of_decide_eq_true hc
   have hlt : i < Q.length := by omega
   conv => whnf
   refine ⟨rfl, ?_⟩
   have s1 := hsum.1 i
   have s2 := sumN_nn (f := allotF Q q day) i fun k _ => hsum.1 k
   have s3 := sumN_up (f := allotF Q q day) (m := Q.length) (fun k _ => hsum.1 k) (a := i + 1) Q.length hlt (Nat.le_refl _)
   have s4 : sumN (allotF Q q day) (i + 1) = sumN (allotF Q q day) i + allotF Q q day i := rfl
   have s5 := hsum.2
   conv => whnf
   rw [e1, hX i hlt, hY i hlt]
   refine ⟨?_, fun hc2 => ?_, fun _ => ?_⟩
   ·exact g0
   ·simp only [bp] at hc2
    exact absurd rfl hc2
   conv => whnf
   refine ⟨?_, i + 1, hlt, by omega, rfl, rfl, ?_, ?_⟩
   ·exact g0
   all_goals repeat' (first | exact True.intro | refine leF_cons rfl ?_ ?_ | refine leS_cons rfl ?_ ?_ | (show PLe _ _ _ _; conv => whnf) | (show SLe _ _ _ _; conv => whnf) | (show PLeL _ _ _ _; conv => whnf) | apply And.intro | rfl | exact Nat.le_refl _ | exact fun _ _ => rfl | exact rowEq0 _ _)
   all_goals first | omega | skip
  ·replace hc := of_decide_eq_false hc
   have : i = Q.length := by omega
   subst this
   have s2 := sumN_nn (f := allotF Q q day) Q.length fun k _ => hsum.1 k
   have s5 := hsum.2
   generalize sumN (allotF Q q day) Q.length = sum at s2 s5 ⊢
   clear hX hY hsum hrw
   conv => whnf
   refine ⟨_, fun _ => call_next 1 d4 30 (by omega) (by decide), ?_⟩
   have b1 := nxt_lt d4 (n := 30) (by omega)
   have c1 := nxtD_at d4 30
   generalize nxt d4 30 = before at b1 ⊢
   generalize nxtD d4 30 = d5 at c1 ⊢
   conv => whnf
   refine ⟨_, fun _ => call_next 1 d5 6 (by omega) (by decide), ?_⟩
   have b2 := nxt_lt d5 (n := 6) (by omega)
   have c2 := nxtD_at d5 6
   generalize nxt d5 6 = up at b2 ⊢
   generalize nxtD d5 6 = d6 at c2 ⊢
   conv => whnf
   refine ⟨_, fun _ => call_next 1 d6 6 (by omega) (by decide), ?_⟩
   have b3 := nxt_lt d6 (n := 6) (by omega)
   have c3 := nxtD_at d6 6
   generalize nxt d6 6 = down at b3 ⊢
   generalize nxtD d6 6 = d7 at c3 ⊢
   conv => whnf
   refine ⟨_, fun _ => call_next 1 d7 6 (by omega) (by decide), ?_⟩
   have b4 := nxt_lt d7 (n := 6) (by omega)
   obtain ⟨n, hn⟩ : ∃ n : Nat, (n : Int) = nxt d7 6 := ⟨(nxt d7 6).toNat, by omega⟩
   rw [← hn] at b4 ⊢
   clear hn
   generalize nxtD d7 6 = d8
   have w1 : wi before 1073741824 = true := (wi_iff _ _).2 (by omega)
   have w2 : wi sum 1073741824 = true := (wi_iff _ _).2 (by omega)
   have w3 : wi up 1073741824 = true := (wi_iff _ _).2 (by omega)
   have w4 : wi down 1073741824 = true := (wi_iff _ _).2 (by omega)
   have h48 := call48 before sum up down n w1 w2 w3 w4 (by omega)
   have hlast := wayF_last before sum up down n
   have hwl := wayF_len before sum up down n
   rw [hwl] at h48
   have hram := ramp_iff (b := before) (t := sum) (up := up) (down := down) n (by omega) (by omega) (by omega)
   conv => whnf
   refine ⟨_, fun _ => call47 before up down n w1 w3 w4 (by omega), ?_⟩
   conv => whnf
   refine ⟨_, fun _ => h48, ?_⟩
   clear h48
   generalize wayF before sum up down n = W at hlast hwl ⊢
   generalize max (before - down * n) 0 = lo at hram ⊢
   generalize min (before + up * n) 1073741824 = hi at hram ⊢
   have hE : ∀ x, x = towN before sum up down n → (x == sum) = (bif decide (lo ≤ sum) then decide (sum ≤ hi) else false) := fun x hx => by
    subst hx
    rw [Bool.eq_iff_iff]
    by_cases h1 : lo ≤ sum
    ·rw [decide_eq_true h1]
     simp [hram, h1]
    ·rw [decide_eq_false h1]
     simp [hram, h1]
   conv => whnf
   refine ⟨?_, fun hc => ?_, fun _ => ?_⟩
   ·exact g0
   ·simp only [bp] at hc
    omega
   conv => whnf
   refine ⟨?_, fun hc => ?_, fun hc => ?_⟩
   ·exact g0
   ·have hpos : (0 : Int) < n := of_decide_eq_true hc
    have e2 : (((n : Int) - 1)).toNat = n - 1 := by omega
    conv => whnf
    rw [e2]
    refine ⟨_, fun _ => call16, ?_⟩
    conv => whnf
    refine ⟨?_, [], ?_⟩
    ·exact g0
    conv => whnf
    refine ⟨rfl, ?_, trivial, trivial⟩
    show PLe _ _ _ _
    conv => whnf
    rw [hE _ (hlast (by omega))]
    generalize (bif decide (lo ≤ sum) then decide (sum ≤ hi) else false) = b
    cases b <;> rfl
   ·have hz : ¬ (0 : Int) < n := of_decide_eq_false hc
    have : n = 0 := by omega
    subst this
    conv => whnf
    refine ⟨_, fun _ => call16, ?_⟩
    conv => whnf
    refine ⟨?_, [], ?_⟩
    ·exact g0
    conv => whnf
    refine ⟨rfl, ?_, trivial, trivial⟩
    show PLe _ _ _ _
    conv => whnf
    rw [hE before rfl]
    generalize (bif decide (lo ≤ sum) then decide (sum ≤ hi) else false) = b
    cases b <;> rfl
end Pv
end Go.Proofs.YtdcgnfkkklbckaaGreatDoor
/- TOP, THE ROWS: what the rows' premises on package variables give. -/
set_option linter.unusedSimpArgs false
set_option linter.unusedVariables false
namespace Go.Proofs.YtdcgnfkkklbckaaGreatDoor
open Go.ChangeShapes Go.WideShapes Go.ChangeAt Go.RowKit
theorem Tryz.own : ownKnob Tryz.prog.godebug = none := by kernel_rfl
theorem Tryz.laidOut : laidOutB Tryz.prog = true := by kernel_rfl
def lists : List (String × DataW Unit) := [("math/bits.deBruijn32tab", Rows.laid_math_bits_deBruijn32tab), ("math/bits.deBruijn64tab", Rows.laid_math_bits_deBruijn64tab), ("internal/strconv.uint64pow10", Rows.laid_internal_strconv_uint64pow10), ("unicode/utf8.acceptRanges", Rows.laid_unicode_utf8_acceptRanges), ("hydrocascade/licence.kinds", Rows.laid_hydrocascade_licence_kinds), ("strconv.ErrRange", Rows.laid_strconv_ErrRange), ("strconv.ErrSyntax", Rows.laid_strconv_ErrSyntax), ("hydrocascade/rules.words", Rows.laid_hydrocascade_rules_words), ("unicode/utf8.first", Rows.laid_unicode_utf8_first)]
theorem returns_door {H : Type} {enc : TypeId × Value → H} {a : Assume} {C : Checked} {os : Os} {f : FuncId} {fn : Func} {s : ChangeSpec} {conds : List PathCond} {apart fresh handsOn again : Bool} {X : World → Array Value → Prop}
  (hX : ∀ (w w' : World) (args : Array Value), w.heap = w'.heap → X w args → X w' args)
  (own : ownKnob C.prog.godebug = none) (started : os.Started) (noInit : C.prog.inits.idxOf? f = none) (hfn : C.prog.funcs[f]? = some fn)
  (witness : ∃ (w : World) (tape : Tape) (i : Input), w.os = os ∧ (w.forCall tape i).Shaped C.prog ∧ i.vars = [] ∧ Input.okWide C.prog (w.forCall tape i) .any w.heap.size f i ∧
   ((s.pre enc C.prog fn conds apart (w.forCall tape i).memory i.args ∧ X (w.forCall tape i).memory i.args) ∧ sizedMet enc C.prog fn (OpenSpec.ofChange s) apart (w.forCall tape i).memory i.args) ∧ a.holds C.prog (lone (Frame.enter C.prog f i.args .normal) [] (w.forCall tape i)))
  (law : ∀ (W : World) (base : Nat) (args : Array Value) (ds gs : List (DataW H)) (before : List MemPlace), (∀ (j : Nat) t v, fn.params[j]? = some t → args[j]? = some v → Value.okWide C.prog W .any base t v) →
   DataW.Whole enc C.prog fn.params.toList s.vars apart W args.toList ds gs before → (DataW.weightsEach C.prog (fn.params.toList ++ s.plain.varTypes C.prog) (ds ++ gs)).all (· ≤ reachBytes) = true → X W args → W.ShapedOpen C.prog →
   Calls C.prog f args W fun e W' => ∃ v, e = .returned v ∧ s.post enc C.prog fn apart fresh handsOn again W args v W') :
  ReturnsInHanded a C os f .any (fun w args => (s.pre enc C.prog fn conds apart w args ∧ X w args) ∧ sizedMet enc C.prog fn (OpenSpec.ofChange s) apart w args) (s.post enc C.prog fn apart fresh handsOn again) := by
 refine returnsInHanded_of_calls own started noInit witness fun w tape i _ hsh _ hok hpre _ => ?_
 obtain ⟨_, _, _, g, hg, _, _, _, _, hval⟩ := hok
 cases Option.some.inj (hg.symm.trans hfn)
 obtain ⟨⟨⟨ds, gs, before, hw, _⟩, hx⟩, hz⟩ := hpre
 refine (law (w.forCall tape i) w.heap.size i.args ds gs before hval (DataW.Whole.of_heap (w' := w.forCall tape i) (by rfl) hw) (hz.weights hw) (hX _ _ _ (by rfl) hx) hsh).mono ?_
 rintro e W' ⟨v, rfl, hp⟩
 exact ChangeSpec.post_blind hp
theorem tab_of {W : World} (h : laidMetH Tryz.prog lists W) : Lib.TabIs Tryz.prog W "internal/strconv.uint64pow10" .u64 Lib.pow10Tab := by
 have h1 := (laidMetH_iff.1 h).1
 have h2 := h1.filter fun x => x.1 == "internal/strconv.uint64pow10"
 have e : ((lists.filter fun x => x.2.handleName?.isNone).filter fun x => x.1 == "internal/strconv.uint64pow10") = [("internal/strconv.uint64pow10", Lib.tabData .u64 Lib.pow10Tab)] := by kernel_rfl
 rw [e] at h2
 exact Lib.tabIs_of_head (g := 3) (t := 411) (e := 372) (n := 20) (by kernel_rfl) (by kernel_rfl) (by kernel_rfl) (by kernel_rfl) (by kernel_rfl) (by kernel_rfl) h2
theorem cells_of_strs {H : Type} {enc : TypeId × Value → H} {P : Program} {w : World} {base : Nat} {sp : Nat → Bool} {held : Bool} {fuel : Nat} {t e : TypeId} {n : Nat} {cs : List Value} {zs : List (List UInt8)} {p : List MemPlace}
  (ht : P.underlying t = some (.array n e)) (he : P.underlying e = some .string) (hce : P.cellsOf e = 1) (hct : P.cellsOf t = n)
  (h : DataW.trod enc P w base sp held fuel t cs = some (.agg (zs.map fun z => .lit (.string z)), p)) : cs = zs.map fun z => Value.string ⟨z.toArray⟩ := by
 cases fuel with
 | zero => simp [DataW.trod] at h
 | succ fuel =>
   simp only [DataW.trod, ht, hce, hct, Nat.mul_one] at h
   split at h
   ·rename_i hl
    obtain ⟨xs, hm, hx⟩ := Option.map_eq_some_iff.1 h
    have hxs : xs.map (·.1) = zs.map fun z => (DataW.lit (.string z) : DataW H) := by
     have := congrArg Prod.fst hx
     simpa using this
    have hxl : xs.length = n := by simpa using Lib.mapM_length hm
    have hzl : zs.length = n := by
     have := congrArg List.length hxs
     simp at this
     omega
    apply List.ext_getElem?
    intro i
    by_cases hi : i < n
    ·obtain ⟨b, hb, hf⟩ := Lib.mapM_at hm i i (by simp [hi])
     obtain ⟨z, hc, hz, _⟩ := DataW.trod_string he hf
     have h1 : cs[i]? = some (.string z) := by
      have := congrArg (·[0]?) hc
      simpa [List.getElem?_take, List.getElem?_drop] using this
     have h2 : (xs.map (·.1))[i]? = some (DataW.lit (.string z.data.toList) : DataW H) := by rw [List.getElem?_map, hb, hz]; rfl
     rw [hxs] at h2
     simp only [List.getElem?_map, Option.map_eq_some_iff, DataW.lit.injEq, Lit.string.injEq] at h2
     obtain ⟨z', hz', rfl⟩ := h2
     simp [h1, hz']
    ·rw [List.getElem?_eq_none (by omega), List.getElem?_eq_none (by simp; omega)]
   ·cases h
theorem words_of {W : World} (h : laidMetH Tryz.prog lists W) : W.var? Tryz.prog "hydrocascade/rules.words" = some (Pv.kindWords.map fun s => Value.string ⟨s.toArray⟩).toArray := by
 have h1 := (laidMetH_iff.1 h).1
 have h2 := h1.filter fun x => x.1 == "hydrocascade/rules.words"
 have e : ((lists.filter fun x => x.2.handleName?.isNone).filter fun x => x.1 == "hydrocascade/rules.words") = [("hydrocascade/rules.words", .agg (Pv.kindWords.map fun z => .lit (.string z)))] := by kernel_rfl
 rw [e] at h2
 obtain ⟨ps, ⟨g', t', cs, fuel, p, q, hg', ht', hvar, hd, _, _⟩, _⟩ := h2
 obtain rfl := Option.some.inj ((show Tryz.prog.globalNamed "hydrocascade/rules.words" = some 0 by kernel_rfl).symm.trans hg')
 obtain rfl := Option.some.inj ((show (Tryz.prog.globals[0]?).map (·.type) = some 176 by kernel_rfl).symm.trans ht')
 rw [hvar, ← cells_of_strs (n := 5) (e := 9) (by kernel_rfl) (by kernel_rfl) (by kernel_rfl) (by kernel_rfl) hd]
theorem list_two {l : List Value} (h : l.length = 2) : ∃ a b, l = [a, b] := by
 match l, h with
 | [a, b], _ => exact ⟨a, b, rfl⟩
theorem trod_pair {H : Type} {enc : TypeId × Value → H} {P : Program} {w : World} {base : Nat} {sp : Nat → Bool} {held : Bool} {fuel : Nat} {t bt : TypeId} {fs : Array Field} {f0 f1 : Field} {cs : List Value} {x : DataW H × List MemPlace} (ht : P.underlying t = some (.struct fs)) (hfs : fs.toList = [f0, f1])
  (t0 : f0.type = bt) (o0 : f0.offset = 0) (t1 : f1.type = bt) (o1 : f1.offset = 1) (hb : P.underlying bt = some .bool) (hcb : P.cellsOf bt = 1) (hct : P.cellsOf t = 2) (h : DataW.trod enc P w base sp held fuel t cs = some x) :
  ∃ a b, cs = [.bool a, .bool b] ∧ x.1 = .agg [.lit (.bool a), .lit (.bool b)] := by
 cases fuel with
 | zero => simp [DataW.trod] at h
 | succ fuel =>
   unfold DataW.trod at h
   rw [ht] at h
   split at h <;> try (simp_all; done)
   rename_i fs' hfs'
   injection hfs' with hfs'; injection hfs' with hfs'; subst hfs'
   rw [hct] at h
   split at h
   ·rename_i hl
    obtain ⟨xs, hm, hx⟩ := Option.map_eq_some_iff.1 h
    rw [hfs] at hm
    have hxl : xs.length = 2 := by simpa using Lib.mapM_length hm
    obtain ⟨b0, hb0, hf0⟩ := Lib.mapM_at hm 0 f0 rfl
    obtain ⟨b1, hb1, hf1⟩ := Lib.mapM_at hm 1 f1 rfl
    rw [t0, o0, hcb] at hf0
    rw [t1, o1, hcb] at hf1
    obtain ⟨a, ha, rfl⟩ := DataW.trod_bool hb hf0
    obtain ⟨b, hb', rfl⟩ := DataW.trod_bool hb hf1
    match xs, hxl, hb0, hb1 with
    | [y0, y1], _, h0, h1 =>
      simp at h0 h1
      subst h0; subst h1
      obtain ⟨c0, c1, hcs⟩ := list_two hl
      rw [hcs] at ha hb' ⊢
      simp at ha hb'
      subst ha; subst hb'
      exact ⟨a, b, rfl, by rw [← hx]; rfl⟩
   ·cases h
theorem cells_of_pairs {H : Type} {enc : TypeId × Value → H} {P : Program} {w : World} {base : Nat} {sp : Nat → Bool} {held : Bool} {fuel : Nat} {t e bt : TypeId} {fs : Array Field} {f0 f1 : Field} {n : Nat} {cs : List Value} {zs : List (Bool × Bool)} {p : List MemPlace}
  (ht : P.underlying t = some (.array n e)) (he : P.underlying e = some (.struct fs)) (hfs : fs.toList = [f0, f1])
  (t0 : f0.type = bt) (o0 : f0.offset = 0) (t1 : f1.type = bt) (o1 : f1.offset = 1) (hb : P.underlying bt = some .bool) (hcb : P.cellsOf bt = 1) (hce : P.cellsOf e = 2) (hct : P.cellsOf t = n * 2)
  (h : DataW.trod enc P w base sp held fuel t cs = some (.agg (zs.map fun z => .agg [.lit (.bool z.1), .lit (.bool z.2)]), p)) : cs.length = n * 2 ∧ zs.length = n ∧ ∀ i, i < n → (cs.drop (i * 2)).take 2 = [Value.bool (zs.getD i default).1, Value.bool (zs.getD i default).2] := by
 cases fuel with
 | zero => simp [DataW.trod] at h
 | succ fuel =>
   simp only [DataW.trod, ht, hce, hct] at h
   split at h
   ·rename_i hl
    obtain ⟨xs, hm, hx⟩ := Option.map_eq_some_iff.1 h
    have hxs : xs.map (·.1) = zs.map fun z => (DataW.agg [.lit (.bool z.1), .lit (.bool z.2)] : DataW H) := by
     have := congrArg Prod.fst hx
     simpa using this
    have hxl : xs.length = n := by simpa using Lib.mapM_length hm
    have hzl : zs.length = n := by
     have := congrArg List.length hxs
     simp at this
     omega
    refine ⟨hl, hzl, fun i hi => ?_⟩
    obtain ⟨b, hb2, hf⟩ := Lib.mapM_at hm i i (by simp [hi])
    obtain ⟨u, v, hc, hz⟩ := trod_pair he hfs t0 o0 t1 o1 hb hcb hce hf
    have h2 : (xs.map (·.1))[i]? = some (DataW.agg [.lit (.bool u), .lit (.bool v)] : DataW H) := by rw [List.getElem?_map, hb2, Option.map_some, hz]
    rw [hxs, List.getElem?_map, List.getElem?_eq_getElem (by omega), Option.map_some] at h2
    simp only [Option.some.injEq, DataW.agg.injEq, List.cons.injEq, DataW.lit.injEq, Lit.bool.injEq, and_true] at h2
    rw [hc, List.getD_eq_getElem?_getD, List.getElem?_eq_getElem (by omega), Option.getD_some, h2.1, h2.2]
   ·cases h
theorem kinds_of {W : World} (h : laidMetH Tryz.prog lists W) : W.var? Tryz.prog "hydrocascade/licence.kinds" = some (Pv.kindFlags.map Value.bool).toArray := by
 have h1 := (laidMetH_iff.1 h).1
 have h2 := h1.filter fun x => x.1 == "hydrocascade/licence.kinds"
 have e : ((lists.filter fun x => x.2.handleName?.isNone).filter fun x => x.1 == "hydrocascade/licence.kinds") = [("hydrocascade/licence.kinds", .agg (([(false, false), (true, false), (false, false), (false, true), (true, true)] : List (Bool × Bool)).map fun z => .agg [.lit (.bool z.1), .lit (.bool z.2)]))] := by kernel_rfl
 rw [e] at h2
 obtain ⟨ps, ⟨g', t', cs, fuel, p, q, hg', ht', hvar, hd, _, _⟩, _⟩ := h2
 obtain rfl := Option.some.inj ((show Tryz.prog.globalNamed "hydrocascade/licence.kinds" = some 2 by kernel_rfl).symm.trans hg')
 obtain rfl := Option.some.inj ((show (Tryz.prog.globals[2]?).map (·.type) = some 327 by kernel_rfl).symm.trans ht')
 obtain ⟨hl, _, hi⟩ := cells_of_pairs (n := 5) Tryz.underlying327 Tryz.underlying326 rfl rfl rfl rfl rfl Tryz.underlying4 (by kernel_rfl) (by kernel_rfl) (by kernel_rfl) hd
 rw [hvar]
 congr 1
 apply Array.ext'
 rw [List.toList_toArray]
 have a0 := hi 0 (by decide)
 have a1 := hi 1 (by decide)
 have a2 := hi 2 (by decide)
 have a3 := hi 3 (by decide)
 have a4 := hi 4 (by decide)
 generalize cs.toList = c at hl a0 a1 a2 a3 a4
 match c, hl with
 | [c0, c1, c2, c3, c4, c5, c6, c7, c8, c9], _ =>
   simp at a0 a1 a2 a3 a4
   simp [Pv.kindFlags, a0, a1, a2, a3, a4]
theorem glob_of {W : World} (h : laidMetH Tryz.prog lists W) (hs : W.ShapedOpen Tryz.prog) : Pv.GlobOK W := fun b p hb => by
 match b, hb with
 | 0, hb =>
   injection hb with hb; subst hb
   have ht := words_of h
   unfold World.var? at ht
   rw [show Tryz.prog.globalNamed "hydrocascade/rules.words" = some 0 from by kernel_rfl] at ht
   simp only [Option.bind_some] at ht
   split at ht
   ·rename_i cs T fz hc
    simp only [Option.some.injEq] at ht
    subst ht
    exact ⟨_, hc, T, fz, rfl⟩
   ·cases ht
 | 1, hb => cases hb
 | 2, hb =>
   injection hb with hb; subst hb
   have ht := kinds_of h
   unfold World.var? at ht
   rw [show Tryz.prog.globalNamed "hydrocascade/licence.kinds" = some 2 from by kernel_rfl] at ht
   simp only [Option.bind_some] at ht
   split at ht
   ·rename_i cs T fz hc
    simp only [Option.some.injEq] at ht
    subst ht
    exact ⟨_, hc, T, fz, rfl⟩
   ·cases ht
 | 3, hb =>
   injection hb with hb; subst hb
   have ht := tab_of h
   unfold Lib.TabIs World.var? at ht
   rw [show Tryz.prog.globalNamed "internal/strconv.uint64pow10" = some 3 from by kernel_rfl] at ht
   simp only [Option.bind_some] at ht
   split at ht
   ·rename_i cs T fz hc
    simp only [Option.some.injEq] at ht
    subst ht
    exact ⟨_, hc, T, fz, rfl⟩
   ·cases ht
 | 4, hb =>
   injection hb with hb; subst hb
   obtain ⟨m, hm⟩ := cell_of_shapedOpen_int (P := Tryz.prog) (w := W) (g := 4) (t := 3) (zero := #[.int .i64 0]) (k := .i64) hs (of_decide_eq_true (by kernel_rfl)) (by kernel_rfl) rfl (by kernel_rfl) (by kernel_rfl) (by kernel_rfl)
   unfold World.cell? at hm
   split at hm
   ·rename_i cs T fz hc
    exact ⟨_, hc, cs, T, fz, m, rfl, by simpa using hm⟩
   ·cases hm
 | b + 5, hb => cases hb
end Go.Proofs.YtdcgnfkkklbckaaGreatDoor
set_option linter.unusedSimpArgs false
set_option linter.unusedVariables false
namespace Go.Proofs.YtdcgnfkkklbckaaGreatDoor
open Go.ChangeShapes Go.WideShapes Go.ChangeAt Go.RowKit
namespace Pv
theorem dec_int : ∀ ps, ShL [.int .i64] ps → ∃ x : Int, ps = eInt x ∧ inR .i64 x := fun ps h => by
 obtain ⟨p, qs, rfl, h1, h⟩ := shl_cons h
 cases shl_nil h
 obtain ⟨a, rfl, ha⟩ := sh_int h1
 exact ⟨a, rfl, ha⟩
theorem of_wfk {k : IntKind} {n : Int} (h : (Lit.int k n).wf = true) : inR k n := by
 simp only [Lit.wf, Bool.and_eq_true, decide_eq_true_eq] at h; exact h
theorem u16_of {n : Int} (h : inR .u16 n) : 0 ≤ n ∧ n ≤ 65535 := h
theorem u8_of {n : Int} (h : inR .u8 n) : 0 ≤ n ∧ n ≤ 255 := h
end Pv
set_option maxRecDepth 100000 in
theorem liftedTopShared (os : Os) (started : os.Started) (H : Type) (enc : TypeId × Value → H) :
  ReturnsInHanded {} Tryz.checked os 6 .any (fun w args => (Rows.topSharedSpec.pre enc Tryz.prog Tryz.f6 Rows.topSharedRow.domain false w args ∧ laidMetH Tryz.prog lists w) ∧ sizedMet enc Tryz.prog Tryz.f6 (OpenSpec.ofChange Rows.topSharedSpec) false w args) (Rows.topSharedSpec.post enc Tryz.prog Tryz.f6 false true false false) := by
 refine returns_door (C := Tryz.checked) (X := fun w _ => laidMetH Tryz.prog lists w) (fun _ _ _ hh h => h.of_heap hh) Tryz.own started (by kernel_rfl) Tryz.func6
  (ChangeSpec.witness_shaped (enc := enc) (C := Tryz.checked) (os := os) (X := fun w _ => laidMetH Tryz.prog lists w) false (World.laidAll Tryz.prog os lists) #[.slice none 0 0] 8 (World.laidAll_os _ _ _)
   (World.shaped_of_ZipB (by kernel_rfl) (by kernel_rfl)) (by kernel_rfl) (by kernel_rfl) (by kernel_rfl)
   (by rw [MakeChecks.laidMetH_plain _ _ _ (by kernel_rfl)]; exact laidMet_laidAll _ (by kernel_rfl) (by kernel_rfl))) ?_
 intro W base args ds gs before hval0 hW hsz0 hL hS
 have hval : ∀ (j : Nat) t v, Tryz.f6.params[j]? = some t → args[j]? = some v → Value.okWide Tryz.prog W .any base t v := hval0
 have hW' := hW
 obtain ⟨p, q, hA0, hV, rfl, hfz, hnd⟩ := hW
 have hA : DataW.TrodAll enc Tryz.prog W 0 (fun _ => true) true Tryz.f6.params.toList args.toList ds p := hA0
 rw [Tryz.params6] at hA hval
 have hgl : Pv.GlobOK W := glob_of hL hS
 have hsz : (DataW.weightsEach Tryz.prog (Tryz.f6.params.toList ++ (Rows.topSharedSpec).plain.varTypes Tryz.prog) (ds ++ gs)).all (· ≤ reachBytes) = true := hsz0
 rw [Tryz.params6] at hsz
 obtain ⟨v0, vs0, d0, ds0, p0, q0, hargs, rfl, rfl, h0, r0⟩ := trodAll_cons hA
 obtain ⟨rfl, rfl, rfl⟩ := trodAll_nil r0
 obtain rfl : args = #[v0] := by cases args; simp_all
 obtain ⟨rfl, rfl⟩ := trodVars_none hV
 have k0 := h0
 have lt0 : ∀ x ∈ p0, x.block < W.heap.size := by obtain ⟨m, hm⟩ := k0; exact DataW.trod_lt m _ _ _ hm
 obtain ⟨a0, len0, cap0, rfl⟩ := okWide_slice Tryz.underlying22 (hval 0 22 v0 rfl rfl)
 obtain ⟨_, s0, g0⟩ := Pv.arg_one (m := 9) (s := .sl [.int .i64]) (by kernel_rfl) rfl k0
 obtain ⟨l0, e0, _, i0⟩ := Pv.sh_list hgl Pv.eInt (Pv.inR .i64) Pv.dec_int s0 g0
 clear hA0 hval0
 refine (Pv.law_calls hgl (Pv.call6 l0) (Pv.RepL.cons_ e0 Pv.RepL.nil_)).mono fun e W' ⟨he, bel⟩ => ?_
 subst he
 exact ⟨_, rfl, _, _, _, [], _, [], hW', trodAll_mk1 (shut_bool Tryz.underlying4 _), (trodAll_cons_mk (Below.trod Tryz.laidOut (by kernel_rfl) (of_decide_eq_true (by kernel_rfl)) k0 bel lt0) trodAll_mk0), rfl, bel.frame _, fun h => by cases h⟩
set_option maxRecDepth 100000 in
set_option maxHeartbeats 4000000 in
theorem TopShared_row : Rows.TopSharedSaid :=
 OpenClaim.holds_of_wide 6 Tryz.f6 rfl rfl rfl rfl rfl rfl rfl ⟨rfl, rfl, rfl, rfl, rfl⟩ rfl rfl rfl rfl rfl (by kernel_rfl) Tryz.func6 (by
   unfold joinedFacts
   simp only [Bool.and_eq_true]
   (repeat' (apply And.intro)) <;> (as_aux_lemma => kernel_rfl))
  (of_decide_eq_true (by kernel_rfl)) (by unfold Func.isWrapper; first | (rw [if_pos (by decide +kernel)]; kernel_rfl) | (rw [if_neg (by decide +kernel)]; exact ⟨rfl, rfl⟩))
  (fun os started H enc _ => liftedTopShared os started H enc)
theorem TopShared_holds : Rows.TopSharedCardSaid :=
 Claim7.holds_tied_plain_at .later [] [.data, .data, .data, .data, .data, .sentinel, .sentinel, .data, .pinned] true (true, "e7780b5818bdd3a97b419b92d3de36dc521f254ed0e3da3c1ca9274bcd9524f2") true TopShared_row (fun _ h => by cases h) (by as_aux_lemma => kernel_rfl) (fun _ h => by cases h) topShared_row_tie rfl ⟨rfl, rfl⟩ (by as_aux_lemma => kernel_rfl) rfl
  (fun f fn hf hfn => by
   obtain rfl : f = 6 := Option.some.inj ((show Tryz.prog.funcNamed "hydrocascade/hydrocascadetop.TopShared" = some 6 by as_aux_lemma => kernel_rfl).symm.trans hf) |>.symm
   obtain rfl : fn = Tryz.f6 := (Option.some.inj (Tryz.func6.symm.trans hfn)).symm
   exact ⟨by as_aux_lemma => kernel_rfl, fun j t ht => by
    rw [Tryz.params6] at ht
    have hm : t ∈ [22] := by simpa using Array.mem_of_getElem? ht
    have hall : ([22].all fun u => !Tryz.prog.wantsStandIn u) = true := by as_aux_lemma => kernel_rfl
    exact (show Tryz.prog.wantsStandIn t = false by simpa using List.all_eq_true.1 hall t hm)⟩)
  (by as_aux_lemma => kernel_rfl)
end Go.Proofs.YtdcgnfkkklbckaaGreatDoor
