/- (*strings.Builder).String OF A BUILDER THAT HOLDS NOTHING: the empty text. -/
import Derived.Test.YtknidebojogodaaGreatDoorZff
import Derived.Shelf.Strings.BuilderK
import Derived.Shelf.Strings.Split
import Derived.Shelf.Strings.Cut
import Derived.Test.YtknidebojogodaaGreatDoorRows
import Derived.Shelf.Strconv.Itoa3
import Derived.Shelf.Strings.FieldsFuncAny
import Derived.Shelf.Strings.OnBuilder
import Derived.Shelf.Strings.Repeat
import Derived.Shelf.Strings.SlTrimAscii
import Derived.Shelf.Strconv.Atoi
import Derived.Lib.FieldsP
import Derived.Lib.SpaceUEq
import Derived.Lib.TrimAscii
import Derived.WalkKit
import Derived.Lib.Join
import Derived.Lib.SlTrimSet
import Derived.Lib.Atoi
import Derived.Lib.ItoaLen
/- THE LIBRARY's strings.Builder: what its functions leave of the builder, and that nothing else changes. -/
set_option linter.unusedSimpArgs false
set_option linter.unusedVariables false
namespace Go.Proofs.YtknidebojogodaaGreatDoor
namespace Pv
open Go.Shelf Go.RowKit
variable {P : Program} {ρ : Ren}
structure Held (T e : TypeId) (b : Nat) (p v : Value) (s : List UInt8) (w : World) : Prop where
  cells : w.heap[b]? = some (.cells #[p, v] T (0, 0))
  own : w.ownsRowF 0 e 1 v s.length (bytesV s)
  ne : v.ownBlock ≠ some b
def self (b : Nat) : Value := .pointer (some ⟨b, 0, none⟩)
theorem bytesV_length (s : List UInt8) : (bytesV s).length = s.length := by simp [bytesV]
theorem strCells_bytes (s : List UInt8) : Lib.strCells ⟨s.toArray⟩ = bytesV s := by simp [Lib.strCells, bytesV]
theorem Held.at_ {T e : TypeId} {b : Nat} {p v : Value} {s : List UInt8} {w : World} (h : Held T e b p v s w) : Lib.BuilderAtF T e 0 b p (bytesV s) w :=
  ⟨Nat.zero_le _, v, h.cells, by rw [bytesV_length]; exact h.own, h.ne⟩
theorem Held.lt {T e : TypeId} {b : Nat} {p v : Value} {s : List UInt8} {w : World} (h : Held T e b p v s w) : b < w.heap.size := (Array.getElem?_eq_some_iff.1 h.cells).1
theorem held_check (L : Lays.n240 P ρ) (X : Builder.X72 P ρ) {b : Nat} {p v : Value} {s : List UInt8} {w : World} (hp : p = .pointer none ∨ p = self b) (h : Held (ρ.t 72) (ρ.t 5) b p v s w) :
    Calls P (ρ.f 240) #[.pointer (some ⟨b, 0, none⟩)] w fun e w' => e = .returned (.tuple #[]) ∧ Held (ρ.t 72) (ρ.t 5) b (self b) v s w' ∧ Keeps (· = b) w w' := by
  rcases hp with rfl | rfl
  · refine (Any.Builder_copyCheck_fresh L X b w h.at_.cell0 h.at_.shape ?_).mono ?_
    · simp [World.frozen?, h.cells]
    · rintro e w' ⟨rfl, rfl⟩
      have hk : Keeps (· = b) w (w.setCell ⟨b, 0, none⟩ (.pointer (some ⟨b, 0, none⟩))) :=
        ⟨rfl, rfl, rfl, by simp [World.setCell], fun k _ hk => Below.heap_setCell _ _ _ _ (fun e => hk (by simp [e]))⟩
      refine ⟨rfl, ⟨?_, ?_, h.ne⟩, hk⟩
      · simp [World.setCell, Array.getElem?_modify, h.cells, self]
      · exact h.own.kept (row := some b) ⟨rfl, rfl, rfl, by simp [World.setCell], fun k _ hk => Below.heap_setCell _ _ _ _ (fun e => hk (by simp [e]))⟩ (.inr h.ne)
  · refine (Any.Builder_copyCheck_used L X b w h.at_.cell0).mono ?_
    rintro e w' ⟨rfl, rfl⟩
    exact ⟨rfl, h, Keeps.refl _ _⟩
theorem held_put {T e : TypeId} {b : Nat} {v v' : Value} {s s' : List UInt8} {w w1 w2 : World} (h1 : Held T e b (self b) v s w1) (hk : Keeps (· = b) w w1) (hg : w1.grownBy w2 v.ownBlock) (hTe : T ≠ e)
    (ho : w2.ownsRowF 0 e 1 v' s'.length (bytesV s')) :
    Held T e b (self b) v' s' (w2.setCell ⟨b, 1, none⟩ v') ∧ Keeps (fun k => k = b ∨ v.ownBlock = some k) w (w2.setCell ⟨b, 1, none⟩ v') := by
  have hb2 : w2.heap[b]? = some (.cells #[self b, v] T (0, 0)) := by
    rw [hg.block b h1.lt (fun e => h1.ne e.symm)]; exact h1.cells
  have hput : Lib.BuilderAtF T e 0 b (self b) (bytesV s') (w2.setCell ⟨b, 1, none⟩ v') :=
    Lib.BuilderAtF.put (Nat.zero_le _) hb2 (by rw [bytesV_length]; exact ho) hTe
  obtain ⟨_, u, q1, q2, q3⟩ := hput
  have hu : u = v' := by
    have : (w2.setCell ⟨b, 1, none⟩ v').heap[b]? = some (.cells #[self b, v'] T (0, 0)) := by simp [World.setCell, Array.getElem?_modify, hb2]
    rw [q1] at this
    simp only [Option.some.injEq, Obj.cells.injEq] at this
    have h := congrArg (·[1]?) this.1
    simpa using h
  subst hu
  refine ⟨⟨q1, by rw [bytesV_length] at q2; exact q2, q3⟩, ?_⟩
  have hs2 : (w2.setCell ⟨b, 1, none⟩ u).heap.size = w2.heap.size := by simp [World.setCell]
  refine ⟨hg.os.trans hk.os, hg.tape.trans hk.tape, hg.output.trans hk.output, by rw [hs2]; exact Nat.le_trans hk.size hg.size, fun k hlt hn => ?_⟩
  have h2 : (w2.setCell ⟨b, 1, none⟩ u).heap[k]? = w2.heap[k]? := Below.heap_setCell _ _ _ _ (fun e => hn (.inl (by simpa using e)))
  rw [h2, hg.block k (Nat.lt_of_lt_of_le hlt hk.size) (fun e => hn (.inr e.symm))]
  exact hk.block k hlt (fun e => hn (.inl e))
theorem run_app_str (w : World) (t u ty e : TypeId) (i : TypeInfo) (ht : P.underlying t = some (.slice e)) (hu : P.underlying u = some .string) (hi : P.info? e = some i) (hz : i.zero = some (.int .u8 0)) (hsize : i.size = 1) (hby : i.bytes = 1)
    (v : Value) (n : Nat) (xs : List Value) (hown : w.ownsRowF 0 e 1 v n xs) (s : ByteArray) (h63 : n + s.size ≤ maxLen) (hbytes : n + s.size ≤ 140737488355328) :
    ∃ v' w', (Builtin.append_ #[t, u] ty #[v, .string s]).run P w = .ok v' w' ∧ w'.ownsRowF 0 e 1 v' (n + s.size) (xs ++ Lib.strCells s) ∧ w.grownBy w' v.ownBlock ∧ (∀ g, v'.ownBlock = some g → v.ownBlock = some g ∨ w.heap.size ≤ g) := by
  have hown0 := hown
  rcases hown.2 with ⟨rfl, rfl⟩ | ⟨g, cap, cur, fz, rfl, hbg, hg, hfz, hnc, hcm, hcs, htake⟩
  · obtain ⟨v', w', hr, h2, h3, _⟩ := Lib.run_append_own_stringF (P := P) w w.heap.size t u ty e i ht hu hi hz hsize hby (.slice none 0 0) 0 xs ⟨hown.1, .inl ⟨rfl, rfl⟩⟩ s h63 hbytes (Nat.le_refl _)
    refine ⟨v', w', hr, ⟨h2.1, ?_⟩, h3, fun k hk => .inr (h2.lt k hk).1⟩
    rcases h2.2 with h4 | ⟨g, cap, cur, fz, q1, q2, q3⟩
    · exact .inl h4
    · exact .inr ⟨g, cap, cur, fz, q1, Nat.zero_le _, q3⟩
  · obtain ⟨v', w', hr, h2, h3, _⟩ := Lib.run_append_own_stringF (P := P) w 0 t u ty e i ht hu hi hz hsize hby (.slice (some ⟨g, 0, none⟩) n cap) n xs hown0 s h63 hbytes (Nat.zero_le _)
    refine ⟨v', w', hr, h2, h3, fun k hk => ?_⟩
    have hxl : xs.length = n := by simpa using hown.1
    have hsm : n + s.size ≤ 9223372036854775807 := by simp only [maxLen] at h63; omega
    by_cases hroom : n + s.size ≤ cap
    · have hr2 := Lib.run_append_room_stringF (P := P) w t u ty e i ht hu hi hsize g n cap cur fz hg (by simpa using hfz) s hroom (by rw [hcs]; omega)
      rw [hr] at hr2
      injection hr2 with e1 e2
      subst e1
      exact .inl hk
    · have hr2 := Lib.run_append_grow_string (P := P) w t u ty e i (.int .u8 0) ht hu hi hz ⟨g, 0, none⟩ n cap xs (by rw [hsize]; simpa using hxl) (hown.cells (g := g) rfl) s (by omega) (by omega) (by rw [hby]; exact growslice_fits (by omega) (by omega))
      rw [hr] at hr2
      injection hr2 with e1 e2
      subst e1
      simp only [Value.ownBlock, Option.some.injEq] at hk
      exact .inr (by rw [← hk]; exact Nat.le_refl _)
theorem run_app_row (w : World) (t ty e : TypeId) (i : TypeInfo) (z : Value) (ht : P.underlying t = some (.slice e)) (hi : P.info? e = some i) (hz : i.zero = some z) (hsize : i.size = 1) (hby : i.bytes = 1) (hzs : z.cells.size = 1)
    (v : Value) (n : Nat) (xs : List Value) (hown : w.ownsRowF 0 e 1 v n xs) (a : Addr) (m c : Nat) (news : List Value) (hl : news.length = m * 1) (hnews : ∀ j u, news[j]? = some u → w.cell? (a.add j) = some u) (h1 : ∀ u ∈ news, u.oneCell' = true)
    (h63 : n + m ≤ maxLen) (hbytes : (n + m) * 1 ≤ 140737488355328) :
    ∃ v' w', (Builtin.append_ #[t, t] ty #[v, .slice (some a) m c]).run P w = .ok v' w' ∧ w'.ownsRowF 0 e 1 v' (n + m) (xs ++ news) ∧ w.grownBy w' v.ownBlock ∧ (∀ g, v'.ownBlock = some g → v.ownBlock = some g ∨ w.heap.size ≤ g) := by
  have hown0 := hown
  rcases hown.2 with ⟨rfl, rfl⟩ | ⟨g, cap, cur, fz, rfl, hbg, hg, hfz, hnc, hcm, hcs, htake⟩
  · obtain ⟨v', w', hr, h2, h3, _⟩ := run_append_ownF (P := P) w w.heap.size t ty e i z 1 1 ht hi hz hsize hby hzs (by decide) (.slice none 0 0) 0 xs ⟨hown.1, .inl ⟨rfl, rfl⟩⟩ a m c news hl hnews h1 h63 hbytes (Nat.le_refl _)
    refine ⟨v', w', hr, ⟨h2.1, ?_⟩, h3, fun k hk => .inr (h2.lt k hk).1⟩
    rcases h2.2 with h4 | ⟨g, cap, cur, fz, q1, q2, q3⟩
    · exact .inl h4
    · exact .inr ⟨g, cap, cur, fz, q1, Nat.zero_le _, q3⟩
  · obtain ⟨v', w', hr, h2, h3, _⟩ := run_append_ownF (P := P) w 0 t ty e i z 1 1 ht hi hz hsize hby hzs (by decide) (.slice (some ⟨g, 0, none⟩) n cap) n xs hown0 a m c news hl hnews h1 h63 hbytes (Nat.zero_le _)
    refine ⟨v', w', hr, h2, h3, fun k hk => ?_⟩
    have hsm : n + m ≤ 9223372036854775807 := by simp only [maxLen] at h63; omega
    by_cases hroom : n + m ≤ cap
    · have hr2 := run_append_roomF (P := P) w t ty e i ht hi g n cap cur fz hg (by rw [hsize]; exact hfz) a m c news (by rw [hsize]; exact hl) hnews h1 hroom (by rw [hsize, hl, hcs]; omega)
      rw [hr] at hr2
      injection hr2 with e1 e2
      subst e1
      exact .inl hk
    · have hr2 := run_append_grow (P := P) w t ty e i z ht hi hz ⟨g, 0, none⟩ n cap xs (by rw [hsize]; exact hown.1) (hown.cells (g := g) rfl) a m c news (by rw [hsize]; exact hl) hnews (by omega) (by omega) (by rw [hby]; exact growslice_fits (by omega) hbytes)
      rw [hr] at hr2
      injection hr2 with e1 e2
      subst e1
      simp only [Value.ownBlock, Option.some.injEq] at hk
      exact .inr (by rw [← hk]; exact Nat.le_refl _)
theorem wp_app_str {ops : Array Oper} {rest : List Oper} {o : Oper} {a : Act} {Q : Exit → Act → World → Prop} {w : World} (hgd : o.guard = none) (sl x : Operand) (t u : TypeId) (ho : o.op = .call { callee := .builtin .append, args := #[sl, x], argTypes := #[t, u] })
    (e : TypeId) (i : TypeInfo) (ht : P.underlying t = some (.slice e)) (hu : P.underlying u = some .string) (hi : P.info? e = some i) (hz : i.zero = some (.int .u8 0)) (hsize : i.size = 1) (hby : i.bytes = 1)
    (v : Value) (n : Nat) (xs : List Value) (hs : a.eval sl = v) (hown : w.ownsRowF 0 e 1 v n xs) (s : ByteArray) (hx : a.eval x = .string s) (h63 : n + s.size ≤ maxLen) (hbytes : n + s.size ≤ 140737488355328)
    (h : ∀ v' w', w'.ownsRowF 0 e 1 v' (n + s.size) (xs ++ Lib.strCells s) → w.grownBy w' v.ownBlock → (∀ g, v'.ownBlock = some g → v.ownBlock = some g ∨ w.heap.size ≤ g) → wpList P ops Q rest (a.put o.dst v') w') : wpList P ops Q (o :: rest) a w := by
  refine wpList_plain hgd fun K hK => ?_
  obtain ⟨v', w', hr, h2, h3, h4⟩ := run_app_str (P := P) w t u o.type e i ht hu hi hz hsize hby v n xs hown s h63 hbytes
  unfold Oper.wp execOp
  simp only [ho, resolve, invoke, builtin, Sem.run_bind, Sem.run_pure, Result.andThen_ok, List.map_toArray, List.map_cons, List.map_nil, hs, hx, hr]
  exact hK _ _ (h v' w' h2 h3 h4)
theorem wp_app_row {ops : Array Oper} {rest : List Oper} {o : Oper} {a : Act} {Q : Exit → Act → World → Prop} {w : World} (hgd : o.guard = none) (sl x : Operand) (t : TypeId) (ho : o.op = .call { callee := .builtin .append, args := #[sl, x], argTypes := #[t, t] })
    (e : TypeId) (i : TypeInfo) (z : Value) (ht : P.underlying t = some (.slice e)) (hi : P.info? e = some i) (hz : i.zero = some z) (hsize : i.size = 1) (hby : i.bytes = 1) (hzs : z.cells.size = 1)
    (v : Value) (n : Nat) (xs : List Value) (hs : a.eval sl = v) (hown : w.ownsRowF 0 e 1 v n xs) (ad : Addr) (m c : Nat) (news : List Value) (hx : a.eval x = .slice (some ad) m c) (hl : news.length = m * 1) (hnews : ∀ j u, news[j]? = some u → w.cell? (ad.add j) = some u)
    (h1 : ∀ u ∈ news, u.oneCell' = true) (h63 : n + m ≤ maxLen) (hbytes : (n + m) * 1 ≤ 140737488355328)
    (h : ∀ v' w', w'.ownsRowF 0 e 1 v' (n + m) (xs ++ news) → w.grownBy w' v.ownBlock → (∀ g, v'.ownBlock = some g → v.ownBlock = some g ∨ w.heap.size ≤ g) → wpList P ops Q rest (a.put o.dst v') w') : wpList P ops Q (o :: rest) a w := by
  refine wpList_plain hgd fun K hK => ?_
  obtain ⟨v', w', hr, h2, h3, h4⟩ := run_app_row (P := P) w t o.type e i z ht hi hz hsize hby hzs v n xs hown ad m c news hl hnews h1 h63 hbytes
  unfold Oper.wp execOp
  simp only [ho, resolve, invoke, builtin, Sem.run_bind, Sem.run_pure, Result.andThen_ok, List.map_toArray, List.map_cons, List.map_nil, hs, hx, hr]
  exact hK _ _ (h v' w' h2 h3 h4)
set_option maxHeartbeats 2000000 in
set_option maxRecDepth 100000 in
theorem held_string (L : Lays.n166 P ρ) (X : Builder.Extra P ρ) {b : Nat} {p v : Value} {s : List UInt8} {w : World} (hp : p = .pointer none ∨ p = self b) (h : Held (ρ.t 72) (ρ.t 5) b p v s w) (x : List UInt8)
    (hlen : s.length + x.length ≤ 140737488355328) :
    Calls P (ρ.f 166) #[.pointer (some ⟨b, 0, none⟩), .string ⟨x.toArray⟩] w fun e w' => e = .returned (.tuple #[.int .i64 x.length, .nilIface]) ∧
      ∃ v', Held (ρ.t 72) (ρ.t 5) b (self b) v' (s ++ x) w' ∧ Keeps (fun k => k = b ∨ v.ownBlock = some k) w w' ∧ (∀ g, v'.ownBlock = some g → v.ownBlock = some g ∨ w.heap.size ≤ g) := by
  obtain ⟨i0, hi, hz0, hz1, hz2⟩ := info_parts X.infoByte
  have mixed := L.mixed
  have t72 := L.t72; have a72 := L.a72; have z72 := L.z72; have v72 := L.v72; have u72 := run_underlying L.t72
  have t70 := L.t70; have a70 := L.a70; have z70 := L.z70; have v70 := L.v70; have u70 := run_underlying L.t70
  have t37 := L.t37; have a37 := L.a37; have z37 := L.z37; have v37 := L.v37; have u37 := run_underlying L.t37
  have t3 := L.t3; have a3 := L.a3; have z3 := L.z3; have v3 := L.v3; have u3 := run_underlying L.t3
  have t9 := L.t9; have a9 := L.a9; have z9 := L.z9; have v9 := L.v9; have u9 := run_underlying L.t9
  have t5 := X.t5; have a5 := X.a5; have z5 := X.z5; have v5 := X.v5; have u5 := run_underlying X.t5
  have e240 : ∀ args w, (callFunc (ρ.f 240) args).run P w = .ok (.enter (ρ.f 240) args) w := enters_of L.f240 (by kernel_rfl) rfl
  go_enter L.f166, Body.n166_ntmps ρ
  go_wp2_with (go_at_fn (ρ.f 240); refine (held_check { L with } X.toX72 hp h).mono ?_)
  rintro e w1 ⟨rfl, h1, hk1⟩
  have c0 : w1.cell? ⟨b, 0, none⟩ = some (self b) := by rw [Lib.cell_of_heap h1.cells]; rfl
  have c1 : w1.cell? ⟨b, 1, none⟩ = some v := by rw [Lib.cell_of_heap h1.cells]; rfl
  go_wp2_with (at_builtin; refine wp_app_str rfl _ _ (ρ.t 37) (ρ.t 9) rfl (ρ.t 5) i0 L.t37 L.t9 hi hz0 hz1 hz2 _ _ _ rfl h1.own ⟨x.toArray⟩ rfl ?k1 ?k2 ?_)
  case k1 => unfold maxLen; show _ + x.toArray.size ≤ _; rw [List.size_toArray]; omega
  case k2 => show _ + x.toArray.size ≤ _; rw [List.size_toArray]; omega
  intro v' w2 ho' hgrow hold
  have ho2 : w2.ownsRowF 0 (ρ.t 5) 1 v' (s ++ x).length (bytesV (s ++ x)) := by
    have := ho'
    rw [strCells_bytes] at this
    simpa [bytesV] using this
  obtain ⟨r1, r2⟩ := held_put h1 hk1 hgrow X.neB5 ho2
  have hb2 : w2.heap[b]? = some (.cells #[self b, v] (ρ.t 72) (0, 0)) := by
    rw [hgrow.block b h1.lt (fun e => h1.ne e.symm)]; exact h1.cells
  have d0 : w2.cell? ⟨b, 0, none⟩ = some (self b) := by rw [Lib.cell_of_heap hb2]; rfl
  have d1 : w2.cell? ⟨b, 1, none⟩ = some v := by rw [Lib.cell_of_heap hb2]; rfl
  have f1 : w2.frozen? ⟨b, 1, none⟩ = false := Lib.frozen_of_heap hb2 1
  obtain ⟨ao, n', cap, rfl⟩ : ∃ ao n' cap, v' = .slice ao n' cap := by
    rcases ho'.2 with ⟨hv, _⟩ | ⟨g, cap, cur, fz, hv, _⟩
    · exact ⟨_, _, _, hv⟩
    · exact ⟨_, _, _, hv⟩
  go_wp2
  go_ret2
  refine ⟨?_, _, r1, r2, fun g hg => ?_⟩
  · rfl
  · exact (hold g hg).imp id fun h5 => Nat.le_trans hk1.size h5
theorem freeze_keep (w : World) (g : Nat) {n : Nat} (hn : n ≠ 0) : Keeps (fun k => k = g) w (w.freeze ⟨g, 0, none⟩ n) := by
  unfold World.freeze
  rw [if_neg hn]
  exact ⟨rfl, rfl, rfl, by simp, fun k _ hk => by simp [Array.getElem?_modify, Ne.symm hk]⟩
theorem Held.alloc {T e : TypeId} {b : Nat} {p v : Value} {s : List UInt8} {w : World} (h : Held T e b p v s w) (o : Obj) : Held T e b p v s (w.alloc o) :=
  ⟨by rw [Lib.alloc_old w o b h.lt]; exact h.cells, h.own.alloc o, h.ne⟩
set_option maxHeartbeats 2000000 in
set_option maxRecDepth 100000 in
theorem held_byte (L : Lays.n167 P ρ) (X : Builder.Extra P ρ) {b : Nat} {p v : Value} {s : List UInt8} {w : World} (hp : p = .pointer none ∨ p = self b) (h : Held (ρ.t 72) (ρ.t 5) b p v s w) (x : UInt8)
    (hlen : s.length + 1 ≤ 140737488355328) :
    Calls P (ρ.f 167) #[.pointer (some ⟨b, 0, none⟩), .int .u8 x.toNat] w fun e w' => e = .returned .nilIface ∧
      ∃ v', Held (ρ.t 72) (ρ.t 5) b (self b) v' (s ++ [x]) w' ∧ Keeps (fun k => k = b ∨ v.ownBlock = some k) w w' ∧ (∀ g, v'.ownBlock = some g → v.ownBlock = some g ∨ w.heap.size ≤ g) := by
  obtain ⟨i0, hi, hz0, hz1, hz2⟩ := info_parts X.infoByte
  have mixed := L.mixed
  have t72 := L.t72; have a72 := L.a72; have z72 := L.z72; have v72 := L.v72; have u72 := run_underlying L.t72
  have t70 := L.t70; have a70 := L.a70; have z70 := L.z70; have v70 := L.v70; have u70 := run_underlying L.t70
  have t5 := L.t5; have a5 := L.a5; have z5 := L.z5; have v5 := L.v5; have u5 := run_underlying L.t5
  have t37 := L.t37; have a37 := L.a37; have z37 := L.z37; have v37 := L.v37; have u37 := run_underlying L.t37
  have e240 : ∀ args w, (callFunc (ρ.f 240) args).run P w = .ok (.enter (ρ.f 240) args) w := enters_of L.f240 (by kernel_rfl) rfl
  go_enter L.f167, Body.n167_ntmps ρ
  go_wp2_with (go_at_fn (ρ.f 240); refine (held_check { L with } X.toX72 hp h).mono ?_)
  rintro e w1 ⟨rfl, h1, hk1⟩
  have c0 : w1.cell? ⟨b, 0, none⟩ = some (self b) := by rw [Lib.cell_of_heap h1.cells]; rfl
  have c1 : w1.cell? ⟨b, 1, none⟩ = some v := by rw [Lib.cell_of_heap h1.cells]; rfl
  go_wp2_with (at_builtin; refine wp_app_row rfl _ _ (ρ.t 37) rfl (ρ.t 5) i0 (.int .u8 0) L.t37 hi hz0 hz1 hz2 rfl _ _ _ rfl (h1.own.alloc _) ⟨w1.heap.size, 0, none⟩ 1 1 [.int .u8 x.toNat] rfl rfl ?k1 ?k2 ?k3 ?k4 ?_)
  case k1 =>
    intro j u hj
    match j, hj with
    | 0, hj => simp at hj; subst hj; simp [Addr.add]
  case k2 => intro u hu; simp at hu; subst hu; rfl
  case k3 => unfold maxLen; omega
  case k4 => omega
  intro v' w2 ho' hgrow hold
  have ho2 : w2.ownsRowF 0 (ρ.t 5) 1 v' (s ++ [x]).length (bytesV (s ++ [x])) := by simpa [bytesV] using ho'
  obtain ⟨r1, r2⟩ := held_put (h1.alloc _) (hk1.trans (Keeps.alloc _ _ _)) hgrow X.neB5 ho2
  have hb2 : w2.heap[b]? = some (.cells #[self b, v] (ρ.t 72) (0, 0)) := by
    rw [hgrow.block b (h1.alloc _).lt (fun e => h1.ne e.symm)]; exact (h1.alloc _).cells
  have d0 : w2.cell? ⟨b, 0, none⟩ = some (self b) := by rw [Lib.cell_of_heap hb2]; rfl
  have d1 : w2.cell? ⟨b, 1, none⟩ = some v := by rw [Lib.cell_of_heap hb2]; rfl
  have f1 : w2.frozen? ⟨b, 1, none⟩ = false := Lib.frozen_of_heap hb2 1
  obtain ⟨ao, n', cap, rfl⟩ : ∃ ao n' cap, v' = .slice ao n' cap := by
    rcases ho'.2 with ⟨hv, _⟩ | ⟨g, cap, cur, fz, hv, _⟩
    · exact ⟨_, _, _, hv⟩
    · exact ⟨_, _, _, hv⟩
  go_wp2
  go_ret
  refine ⟨rfl, _, r1, r2, fun g hg => ?_⟩
  refine (hold g hg).imp id fun h5 => Nat.le_trans hk1.size (Nat.le_trans ?_ h5)
  simp
set_option maxHeartbeats 2000000 in
set_option maxRecDepth 100000 in
theorem held_text (L : Lays.n169 P ρ) (X : Builder.Extra P ρ) {b : Nat} {p v : Value} {s : List UInt8} {w : World} (h : Held (ρ.t 72) (ρ.t 5) b p v s w) (h0 : s ≠ []) :
    Calls P (ρ.f 169) #[.pointer (some ⟨b, 0, none⟩)] w fun e w' => e = .returned (.string ⟨s.toArray⟩) ∧ Held (ρ.t 72) (ρ.t 5) b p v s w' ∧ Keeps (fun k => k = b ∨ v.ownBlock = some k) w w' := by
  have hl0 : s.length ≠ 0 := by simpa using h0
  obtain ⟨g, cap, cur, fz, hv, _, hg, hfz, hnc, hcm, hcs, htake⟩ : ∃ g cap cur fz, v = .slice (some ⟨g, 0, none⟩) s.length cap ∧ 0 ≤ g ∧ w.heap[g]? = some (.cells cur (ρ.t 5) fz) ∧ fz.2 ≤ s.length * 1 ∧ s.length ≤ cap ∧ cap ≤ maxLen ∧ cur.size = cap * 1 ∧ cur.toList.take (s.length * 1) = bytesV s := by
    rcases h.own.2 with ⟨_, hz⟩ | ⟨g, cap, cur, fz, hv, r⟩
    · exact absurd hz hl0
    · exact ⟨g, cap, cur, fz, hv, r⟩
  have hgb : g ≠ b := fun e => h.ne (by rw [hv, e]; rfl)
  have c1 : w.drew.cell? ⟨b, 1, none⟩ = some (.slice (some ⟨g, 0, none⟩) s.length cap) := by
    have : w.drew.heap[b]? = some (.cells #[p, v] (ρ.t 72) (0, 0)) := h.cells
    rw [Lib.cell_of_heap this, hv]; rfl
  have hSD : (Builtin.unsafeSliceData_ #[(ρ.t 37)] (ρ.t 127) #[.slice (some ⟨g, 0, none⟩) s.length cap]).run P w.drew = .ok (.pointer (some ⟨g, 0, none⟩)) w.drew :=
    Lib.run_unsafeSliceData_row _ _ _ _ _ _ (by omega)
  have hUS : (Builtin.unsafeString_ #[(ρ.t 127), (ρ.t 3)] (ρ.t 9) #[.pointer (some ⟨g, 0, none⟩), .int .i64 s.length]).run P w.drew = .ok (.string ⟨s.toArray⟩) (w.drew.freeze ⟨g, 0, none⟩ s.length) := by
    refine Lib.run_unsafeString_row w.drew (ρ.t 127) (ρ.t 3) (ρ.t 9) (ρ.t 5) L.t127 X.cellsByte g cur.size (by have hg' : w.drew.heap[g]? = some (.cells cur (ρ.t 5) fz) := hg; simp [World.shape?, hg']) s h0 (by omega) (by unfold maxLen at hcm; omega) ?_
    intro j x hx
    have := h.own.cells (g := g) (by rw [hv]; rfl) j (.int .u8 x.toNat) (by simp [bytesV, hx])
    exact this
  have hkeep : Held (ρ.t 72) (ρ.t 5) b p v s (w.drew.freeze ⟨g, 0, none⟩ s.length) := by
    have hA : Lib.BuilderAtF (ρ.t 72) (ρ.t 5) 0 b p (bytesV s) w.drew := h.at_
    have hF := hA.froze (g := g) (cap := cap) (by rw [bytesV_length]; exact c1)
    rw [bytesV_length] at hF
    obtain ⟨_, u, q1, q2, q3⟩ := hF
    have hu : u = v := by
      have hk2 : (w.drew.freeze ⟨g, 0, none⟩ s.length).heap[b]? = some (.cells #[p, v] (ρ.t 72) (0, 0)) := by
        rw [show (w.drew.freeze ⟨g, 0, none⟩ s.length).heap[b]? = w.heap[b]? from (freeze_keep w.drew g hl0).block b h.lt (Ne.symm hgb)]; exact h.cells
      rw [q1] at hk2
      simp only [Option.some.injEq, Obj.cells.injEq] at hk2
      have h := congrArg (·[1]?) hk2.1
      simpa using h
    subst hu
    exact ⟨q1, by rw [bytesV_length] at q2; exact q2, q3⟩
  have hks : Keeps (fun k => k = b ∨ v.ownBlock = some k) w (w.drew.freeze ⟨g, 0, none⟩ s.length) :=
    ((Keeps.drew (fun k => k = g) w).trans (freeze_keep w.drew g hl0)).mono fun k _ e => .inr (by rw [hv, e]; rfl)
  have mixed := L.mixed
  have t72 := L.t72; have a72 := L.a72; have z72 := L.z72; have v72 := L.v72; have u72 := run_underlying L.t72
  have t70 := L.t70; have a70 := L.a70; have z70 := L.z70; have v70 := L.v70; have u70 := run_underlying L.t70
  have t37 := L.t37; have a37 := L.a37; have z37 := L.z37; have v37 := L.v37; have u37 := run_underlying L.t37
  have t127 := L.t127; have a127 := L.a127; have z127 := L.z127; have v127 := L.v127; have u127 := run_underlying L.t127
  have t3 := L.t3; have a3 := L.a3; have z3 := L.z3; have v3 := L.v3; have u3 := run_underlying L.t3
  have t9 := L.t9; have a9 := L.a9; have z9 := L.z9; have v9 := L.v9; have u9 := run_underlying L.t9
  have t5 := X.t5; have a5 := X.a5; have z5 := X.z5; have v5 := X.v5; have u5 := run_underlying X.t5
  go_enter L.f169, Body.n169_ntmps ρ
  go_wp2
  go_region_o
  all_goals (go_wp2; go_ret; exact ⟨rfl, hkeep, hks⟩)
end Pv
end Go.Proofs.YtknidebojogodaaGreatDoor
/- THE LIBRARY's functions on texts: general forms of their contracts in the words of pure calls. -/
set_option linter.unusedSimpArgs false
set_option linter.unusedVariables false
namespace Go.Proofs.YtknidebojogodaaGreatDoor
namespace Pv
open Go.RowKit
theorem ownsF_lt {w : World} {e z n : Nat} {v : Value} {vs : List Value} (h : w.ownsRowF 0 e z v n vs) : ∀ b, v.ownBlock = some b → b < w.heap.size := fun b hb => by
  rcases h.2 with ⟨h0, _⟩ | ⟨g, cap, cur, fz, h0, _, h2, _⟩
  · subst h0; cases hb
  · subst h0; injection hb with hb; subst hb
    exact (Array.getElem?_eq_some_iff.1 h2).1
theorem pure_bld {P : Program} {f T e : Nat} {args : List PV} {us : List Value} {val : PV} {rv : Value} {s s' : List UInt8}
    (hfn : ∃ fn, P.funcs[f]? = some fn ∧ fn.body.isSome = true ∧ (fn.name == "runtime.NumGoroutine") = false)
    (hargs : ∀ (X : Cx) (γ : Gh) (w : World) (vals : List Value), RepL X γ w args vals → vals = us) (hval : ∀ (X : Cx) (γ : Gh) (w : World), Rep X γ w val rv)
    (h : ∀ (w : World) (b : Nat) (p v : Value), (p = .pointer none ∨ p = self b) → Held T e b p v s w →
      Calls P f (self b :: us).toArray w fun ev w' => ev = .returned rv ∧ ∃ p' v', (p' = .pointer none ∨ p' = self b) ∧ Held T e b p' v' s' w' ∧ Keeps (fun k => k = b ∨ v.ownBlock = some k) w w' ∧ (∀ g, v'.ownBlock = some g → v.ownBlock = some g ∨ w.heap.size ≤ g)) :
    PureCall P f (.pt 0 0 0 :: args) [.bld T e s] ⟨val, [.bld T e s'], []⟩ := by
  refine ⟨hfn, fun w γ as_ ls vals hst hX hr => ?_⟩
  obtain ⟨v0, us', rfl, hv, hus⟩ := hr.cons_inv
  have := hargs _ _ _ _ hus
  subst this
  obtain ⟨ge, b, hge, hgb, rfl⟩ := pt_inv hv
  obtain ⟨b', p, v, g1, g2, g3, g4, g5, g6⟩ := hst.at_ 0 ge (.bld T e s) hge rfl
  have hb : b' = b := by rw [g1] at hgb; injection hgb
  subst hb
  have hheld : Held T e b' p v s w := ⟨g4, g5, g6⟩
  have hself : Value.pointer (some ⟨b', 0 * ge.z + 0, none⟩) = self b' := by rw [Nat.zero_mul]; rfl
  rw [hself]
  refine (h w b' p v g3 hheld).mono ?_
  rintro ev w' ⟨he, p', v', hp', hH, hk, hold⟩
  have hnone : ∀ r, r ≠ 0 → γ r = none := fun r hr => by
    have := hst.dom r
    rw [List.getElem?_eq_none (by simp; omega)] at this
    simpa using this
  have hblt : b' < w.heap.size := hheld.lt
  let ge' : GE := ⟨some b', v', ge.z⟩
  have hhas : ∀ k, ge'.has k → ge.has k ∨ w.heap.size ≤ k := fun k hk => by
    rcases hk with hk | hk
    · exact .inl (.inl (by injection hk with hk; rw [← hk]; exact g1))
    · exact (hold k hk).imp (fun h => .inr (by rw [g2]; exact h)) id
  have hown : ∀ k, ge.has k → γ.own k := fun k hk => ⟨0, ge, hge, hk⟩
  have hown' : ∀ k, Gh.own (fun r => if r = 0 then some ge' else none) k → γ.own k ∨ w.heap.size ≤ k := fun k ⟨r, g, hr, hb⟩ => by
    by_cases h0 : r = 0
    · simp only [h0, if_true, Option.some.injEq] at hr
      subst hr
      exact (hhas k hb).imp (hown k) id
    · simp only [h0, if_false] at hr; cases hr
  have hkeep : Keeps γ.own w w' := hk.mono fun k _ hk => by
    rcases hk with rfl | hk
    · exact hown _ (.inl g1)
    · exact hown _ (.inr (by rw [g2]; exact hk))
  refine ⟨rv, fun r => if r = 0 then some ge' else none, he, hval _ _ _, ?_, hkeep, fun r hr => ?_, fun r g k hr hb => ?_⟩
  · refine ⟨fun r => ?_, fun r g se hr hs => ?_, fun r r' g g' k hr hr' _ _ => ?_, fun k hk => ?_, fun k ⟨r, g, hr, hb⟩ => ?_, ?_⟩
    rotate_right
    · exact glob_keep hst.glob (fun k hlt hn => hkeep.block k hlt hn) hown'
    · by_cases h : r = 0
      · subst h; rfl
      · simp only [h, if_false, resSt]
        by_cases h2 : newBase ≤ r
        · rw [if_pos h2]; rfl
        · rw [if_neg h2, List.getElem?_eq_none (by simp; omega)]; rfl
    · by_cases h : r = 0
      · subst h
        simp only [if_true, Option.some.injEq] at hr
        subst hr
        have hs' : some (SE.bld T e s') = some se := hs
        injection hs' with hs'
        subst hs'
        exact ⟨b', p', v', rfl, rfl, hp', hH.cells, hH.own, hH.ne⟩
      · simp only [h, if_false] at hr; cases hr
    · by_cases h : r = 0
      · by_cases h' : r' = 0
        · rw [h, h']
        · simp only [h', if_false] at hr'; cases hr'
      · simp only [h, if_false] at hr; cases hr
    · rcases hown' k hk with h | h
      · exact hst.asOff k h
      · exact ⟨fun ha => by have := hX k (.inl ha); omega, fun ha => by have := hX k (.inr ha); omega⟩
    · by_cases h : r = 0
      · simp only [h, if_true, Option.some.injEq] at hr
        subst hr
        rcases hb with hb | hb
        · injection hb with hb; rw [← hb]; exact hH.lt
        · exact ownsF_lt hH.own k hb
      · simp only [h, if_false] at hr; cases hr
  · have h0 : r = 0 := by simp [nbx] at hr; exact hr
    subst h0
    exact ⟨ge', ge, rfl, hge, g1.symm, rfl⟩
  · by_cases h : r = 0
    · simp only [h, if_true, Option.some.injEq] at hr
      subst hr
      rcases hhas k hb with h1 | h1
      · exact .inr (.inr ⟨ge, by rw [h]; exact hge, h1⟩)
      · exact .inl h1
    · simp only [h, if_false] at hr; cases hr
theorem pure_still {P : Program} {f : Nat} {args : List PV} {us : List Value} {val : PV} {rv : Value}
    (hfn : ∃ fn, P.funcs[f]? = some fn ∧ fn.body.isSome = true ∧ (fn.name == "runtime.NumGoroutine") = false)
    (hargs : ∀ (X : Cx) (γ : Gh) (w : World) (vals : List Value), RepL X γ w args vals → vals = us) (hval : ∀ (X : Cx) (γ : Gh) (w : World), Rep X γ w val rv)
    (h : ∀ (w : World), (∀ b p, Pv.glob b = some p → ∃ o, w.heap[b]? = some o ∧ p o) → Calls P f us.toArray w fun ev w' => ev = .returned rv ∧ Keeps (fun _ => False) w w') :
    PureCall P f args [] ⟨val, [], []⟩ := by
  refine ⟨hfn, fun w γ as_ ls vals hst hX hr => ?_⟩
  have := hargs _ _ _ _ hr
  subst this
  refine (h w fun b p hb => (hst.glob b p hb).1).mono ?_
  rintro ev w' ⟨he, hk⟩
  have hnone : ∀ r, γ r = none := fun r => by
    have := hst.dom r
    simpa using this
  have hno : ∀ b, ¬ γ.own b := fun b ⟨r, ge, hr, _⟩ => by rw [hnone r] at hr; cases hr
  have hkeep : Keeps γ.own w w' := hk.mono fun k _ h => h.elim
  refine ⟨rv, γ, he, hval _ _ _, ?_, hkeep, fun r hr => by simp [nbx] at hr, fun r ge b hr hb => by rw [hnone r] at hr; cases hr⟩
  refine ⟨fun r => ?_, fun r ge se hr hs => (by rw [hnone r] at hr; cases hr), fun r r' ge ge' b hr => (by rw [hnone r] at hr; cases hr), fun b hb => absurd hb (hno b), fun b hb => absurd hb (hno b), ?_⟩
  · rw [hnone r]; unfold resSt
    split <;> rfl
  · exact glob_keep hst.glob (fun k hlt hn => hkeep.block k hlt hn) fun b hb => .inl hb
theorem pure_new2 {P : Program} {f : Nat} {args : List PV} {us : List Value} {e z n : Nat} {g : Nat → List PV} {vs : List Value}
    (hfn : ∃ fn, P.funcs[f]? = some fn ∧ fn.body.isSome = true ∧ (fn.name == "runtime.NumGoroutine") = false)
    (hargs : ∀ (X : Cx) (γ : Gh) (w : World) (vals : List Value), RepL X γ w args vals → vals = us) (hrows : ∀ (X : Cx) (γ : Gh) (w : World), RowsRep X γ w 0 z n g vs)
    (h : ∀ (w : World), (∀ b p, Pv.glob b = some p → ∃ o, w.heap[b]? = some o ∧ p o) →
      Calls P f us.toArray w fun ev w' => ∃ v', ev = .returned v' ∧ w'.ownsRow w.heap.size e z v' n vs ∧ Keeps (fun _ => False) w w') :
    PureCall P f args [] ⟨.os 1000000000, [], [.row 0 e z n g]⟩ := by
  refine ⟨hfn, fun w γ as_ ls vals hst hX hr => ?_⟩
  have := hargs _ _ _ _ hr
  subst this
  refine (h w fun b p hb => (hst.glob b p hb).1).mono ?_
  rintro ev w' ⟨v', he, ho, hk⟩
  have ho0 : OwnsG w' e z v' n vs := OwnsG_of ho
  have hone : v'.oneCell' = true := slice_one ho0
  have hblk : ∀ b, v'.ownBlock = some b → w.heap.size ≤ b ∧ b < w'.heap.size := fun b hb => by
    refine ⟨?_, own_lt' ho0 b hb⟩
    rcases ho.2 with ⟨h0, _⟩ | ⟨g, cap, cur, h0, h1, _⟩
    · subst h0; cases hb
    · subst h0; injection hb with hb; subst hb; exact h1
  have hnone : ∀ r, γ r = none := fun r => by
    have := hst.dom r
    simpa using this
  refine ⟨v', fun r => if r = 1000000000 then some ⟨v'.ownBlock, v', z⟩ else none, he, .os _ ⟨v'.ownBlock, v', z⟩ (by simp) hone rfl, ?_, ⟨hk.os, hk.tape, hk.output, hk.size, fun b hb _ => hk.block b hb (fun h => h)⟩, fun r hr => by simp [nbx] at hr, fun r ge b hr hb => ?_⟩
  · refine ⟨fun r => ?_, fun r ge se hr hs => ?_, fun r r' ge ge' b hr hr' _ _ => ?_, fun b ⟨r, ge, hr, hb⟩ => ?_, fun b ⟨r, ge, hr, hb⟩ => ?_, ?_⟩
    rotate_right
    · refine glob_keep hst.glob (fun b hlt _ => hk.block b hlt (fun h => h)) (fun b ⟨r, ge, hr, hb⟩ => ?_)
      by_cases h : r = 1000000000
      · simp only [h, if_true, Option.some.injEq] at hr
        subst hr
        exact .inr (hblk b ((GE.has_row rfl).1 hb)).1
      · simp only [h, if_false] at hr; cases hr
    · by_cases h : r = 1000000000
      · subst h; simp [resSt, newBase]
      · simp only [h, if_false, resSt]
        by_cases h2 : newBase ≤ r
        · have : 1 ≤ r - newBase := by unfold newBase at *; omega
          rw [if_pos h2, List.getElem?_eq_none (by simpa using this)]; rfl
        · rw [if_neg h2]; simp
    · by_cases h : r = 1000000000
      · subst h
        simp only [if_true, Option.some.injEq] at hr
        subst hr
        simp [resSt, newBase] at hs
        subst hs
        exact (hrows _ _ _).repS rfl rfl hone ho0
      · simp only [h, if_false] at hr; cases hr
    · by_cases h : r = 1000000000
      · by_cases h' : r' = 1000000000
        · rw [h, h']
        · simp only [h', if_false] at hr'; cases hr'
      · simp only [h, if_false] at hr; cases hr
    · by_cases h : r = 1000000000
      · simp only [h, if_true, Option.some.injEq] at hr
        subst hr
        have := (hblk b ((GE.has_row rfl).1 hb)).1
        exact ⟨fun ha => by have := hX b (.inl ha); omega, fun ha => by have := hX b (.inr ha); omega⟩
      · simp only [h, if_false] at hr; cases hr
    · by_cases h : r = 1000000000
      · simp only [h, if_true, Option.some.injEq] at hr
        subst hr
        exact (hblk b ((GE.has_row rfl).1 hb)).2
      · simp only [h, if_false] at hr; cases hr
  · by_cases h : r = 1000000000
    · simp only [h, if_true, Option.some.injEq] at hr
      subst hr
      exact .inl (hblk b ((GE.has_row rfl).1 hb)).1
    · simp only [h, if_false] at hr; cases hr
/-! ## texts in a slice -/
def eStr (s : List UInt8) : List PV := [.str s]
def strV (s : List UInt8) : Value := .string ⟨s.toArray⟩
theorem strs_rows {X : Cx} {γ : Gh} {w : World} (l : List (List UInt8)) : RowsRep X γ w 0 1 l.length (fl eStr l) (l.map strV) := by
  refine ⟨by simp, fun u hu => ?_, fun i hi => rfl, fun i hi c hc => ?_, fun i j c u hi hc hu => ?_⟩
  · obtain ⟨n, _, rfl⟩ := List.mem_map.1 hu; rfl
  · have : c = .str (l.getD i default) := by simpa [fl, eStr] using hc
    subst this; rfl
  · have hj : j = 0 := by
      have := (List.getElem?_eq_some_iff.1 hc).1
      simp [fl, eStr] at this; omega
    subst hj
    have : c = .str (l.getD i default) := by
      have h0 : some (PV.str (l.getD i default)) = some c := hc
      injection h0 with h0; exact h0.symm
    subst this
    rw [Nat.mul_one, Nat.add_zero, List.getElem?_map, getD_some hi] at hu
    injection hu with hu; subst hu
    exact .str _
end Pv
end Go.Proofs.YtknidebojogodaaGreatDoor
/- PLAIN: texts cut at a byte. -/
set_option linter.unusedSimpArgs false
set_option linter.unusedVariables false
namespace Go.Proofs.YtknidebojogodaaGreatDoor
namespace Pv
def splitC (c : UInt8) : List UInt8 → List (List UInt8)
  | [] => [[]]
  | x :: xs => if x = c then [] :: splitC c xs else match splitC c xs with
    | [] => [[x]]
    | h :: t => (x :: h) :: t
def brkC (c : UInt8) : List UInt8 → List UInt8 × List UInt8 × Bool
  | [] => ([], [], false)
  | x :: xs => if x = c then ([], xs, true) else (x :: (brkC c xs).1, (brkC c xs).2)
theorem splitC_ne (c : UInt8) (s : List UInt8) : splitC c s ≠ [] := by
  cases s with
  | nil => simp [splitC]
  | cons x xs =>
    unfold splitC
    split
    · simp
    · split <;> simp
theorem splitC_brk (c : UInt8) : ∀ s : List UInt8, splitC c s = if (brkC c s).2.2 = true then (brkC c s).1 :: splitC c (brkC c s).2.1 else [s]
  | [] => rfl
  | x :: xs => by
    by_cases h : x = c
    · simp [splitC, brkC, h]
    · have ih := splitC_brk c xs
      simp only [splitC, brkC, if_neg h]
      by_cases h2 : (brkC c xs).2.2 = true
      · rw [if_pos h2] at ih ⊢
        rw [ih]
      · rw [if_neg h2] at ih ⊢
        rw [ih]
theorem brkC_len (c : UInt8) : ∀ s : List UInt8, (brkC c s).1.length ≤ s.length ∧ (brkC c s).2.1.length ≤ s.length ∧ ((brkC c s).2.2 = true → (brkC c s).1.length + 1 + (brkC c s).2.1.length = s.length)
  | [] => by simp [brkC]
  | x :: xs => by
    have ih := brkC_len c xs
    unfold brkC
    split
    · simp; omega
    · simp only [List.length_cons]
      refine ⟨by omega, by omega, fun h => ?_⟩
      have := ih.2.2 h
      omega
theorem splitC_len (c : UInt8) : ∀ s : List UInt8, (splitC c s).length ≤ s.length + 1 ∧ ∀ x ∈ splitC c s, x.length ≤ s.length
  | [] => by simp [splitC]
  | x :: xs => by
    have ih := splitC_len c xs
    unfold splitC
    split
    · refine ⟨by simp; omega, fun y hy => ?_⟩
      rcases List.mem_cons.1 hy with rfl | hy
      · simp
      · have := ih.2 y hy; simp; omega
    · split
      · simp
      · rename_i h t e
        rw [e] at ih
        refine ⟨by simp at ih ⊢; omega, fun y hy => ?_⟩
        rcases List.mem_cons.1 hy with rfl | hy
        · have := ih.2 h (by simp); simp; omega
        · have := ih.2 y (by simp [hy]); simp; omega
theorem index_cons_eq (c : UInt8) (l : List UInt8) : Lib.index (c :: l) [c] = 0 := by rw [Lib.index]; simp [List.isPrefixOf]
theorem index_cons_ne (b c : UInt8) (l : List UInt8) (h : b ≠ c) : Lib.index (b :: l) [c] = if Lib.index l [c] == -1 then -1 else Lib.index l [c] + 1 := by
  have hp : ([c] : List UInt8).isPrefixOf (b :: l) = false := by simp [List.isPrefixOf, Ne.symm h]
  rw [Lib.index, hp]; simp
theorem cut_brk (c : UInt8) : ∀ s : List UInt8, Lib.cut s [c] = brkC c s
  | [] => by simp [Lib.cut, Lib.index, brkC]
  | b :: l => by
    have ih := cut_brk c l
    have hge := Lib.index_ge l [c]
    by_cases h : b = c
    · subst h
      unfold Lib.cut brkC
      rw [index_cons_eq, if_pos (by decide), if_pos rfl]
      rfl
    · unfold brkC
      rw [if_neg h, ← ih]
      unfold Lib.cut
      rw [index_cons_ne b c l h]
      by_cases hm : Lib.index l [c] = -1
      · rw [hm]; rfl
      · obtain ⟨j, hj⟩ : ∃ j : Nat, Lib.index l [c] = j := ⟨(Lib.index l [c]).toNat, by omega⟩
        have e0 : (if (Lib.index l [c] == -1) = true then (-1 : Int) else Lib.index l [c] + 1) = (j : Int) + 1 := by rw [if_neg (by simpa using hm), hj]
        rw [e0, hj, if_pos (by omega), if_pos (by omega)]
        have e1 : ((j : Int) + 1).toNat = j + 1 := by omega
        have e2 : (j : Int).toNat = j := by omega
        rw [e1, e2]
        simp [Nat.add_assoc]
theorem splitK_C (c : UInt8) : ∀ s : List UInt8, Lib.splitK [c] 0 (Lib.count s [c]) s = splitC c s
  | [] => by rw [Lib.count_one]; rfl
  | b :: l => by
    have ih := splitK_C c l
    have hge := Lib.index_ge l [c]
    by_cases h : b = c
    · subst h
      rw [Lib.count_cons_eq, Nat.add_comm, Lib.splitK, index_cons_eq]
      simp only [splitC, if_pos]
      have e : ((0 : Int) == -1) = false := by decide
      rw [e]
      simpa using ih
    · rw [Lib.count_cons_ne b c l h]
      unfold splitC
      rw [if_neg h, ← ih]
      by_cases hm : Lib.index l [c] = -1
      · rw [Lib.count_miss hm]
        rfl
      · obtain ⟨j, hj⟩ : ∃ j : Nat, Lib.index l [c] = j := ⟨(Lib.index l [c]).toNat, by omega⟩
        rw [Lib.count_hit (by simp) hj, Nat.add_comm, Lib.splitK, Lib.splitK, index_cons_ne b c l h, hj]
        have e1 : ((j : Int) == -1) = false := beq_eq_false_iff_ne.2 (by omega)
        have e2 : (((j : Int) + 1) == -1) = false := beq_eq_false_iff_ne.2 (by omega)
        have e3 : ((j : Int) + 1).toNat = j + 1 := by omega
        have e4 : (j : Int).toNat = j := by omega
        rw [e1]
        simp only [Bool.false_eq_true, if_false]
        rw [e2]
        simp only [Bool.false_eq_true, if_false, e3, e4, Nat.add_zero]
        simp [Nat.add_assoc, Nat.add_comm 1 1]
end Pv
end Go.Proofs.YtknidebojogodaaGreatDoor
/- THE LIBRARY's strings.Builder AT THIS PROGRAM: the layings of its functions. -/
set_option linter.unusedSimpArgs false
set_option linter.unusedVariables false
namespace Go.Proofs.YtknidebojogodaaGreatDoor
namespace Sh
open Go.Shelf
def lays240_ren : Go.Shelf.Ren := ⟨fun | 166 => 26 | 167 => 28 | 240 => 47 | 276 => 64 | 169 => 29 | n => n, fun | 70 => 55 | 72 => 57 | 37 => 37 | 75 => 59 | 80 => 65 | 164 => 105 | 127 => 84 | n => n, fun | n => n⟩
theorem lays240 : Go.Proofs.Lays.n240 Tryz.prog lays240_ren := {
  mixed := by kernel_rfl
  f240 := Tryz.func47.trans (congrArg some (by kernel_rfl))
  f276 := Tryz.func64.trans (congrArg some (by kernel_rfl))
  t0 := Tryz.underlying0
  a0 := Tryz.isAgg0
  z0 := Tryz.sizeOf0
  v0 := Tryz.zeroValue0
  t4 := Tryz.underlying4
  a4 := Tryz.isAgg4
  z4 := Tryz.sizeOf4
  v4 := Tryz.zeroValue4
  t9 := Tryz.underlying9
  a9 := Tryz.isAgg9
  z9 := Tryz.sizeOf9
  v9 := Tryz.zeroValue9
  t20 := Tryz.underlying20
  a20 := Tryz.isAgg20
  z20 := Tryz.sizeOf20
  v20 := Tryz.zeroValue20
  t70 := Tryz.underlying55
  a70 := Tryz.isAgg55
  z70 := Tryz.sizeOf55
  v70 := Tryz.zeroValue55
  t72 := Tryz.underlying57
  a72 := Tryz.isAgg57
  z72 := Tryz.sizeOf57
  v72 := Tryz.zeroValue57
  t164 := Tryz.underlying105
  a164 := Tryz.isAgg105
  z164 := Tryz.sizeOf105
  v164 := Tryz.zeroValue105 }
def lays167_ren : Go.Shelf.Ren := ⟨fun | 166 => 26 | 167 => 28 | 240 => 47 | 276 => 64 | 169 => 29 | n => n, fun | 70 => 55 | 72 => 57 | 37 => 37 | 75 => 59 | 80 => 65 | 164 => 105 | 127 => 84 | n => n, fun | n => n⟩
theorem lays167 : Go.Proofs.Lays.n167 Tryz.prog lays167_ren := {
  mixed := by kernel_rfl
  f167 := Tryz.func28.trans (congrArg some (by kernel_rfl))
  f240 := Tryz.func47.trans (congrArg some (by kernel_rfl))
  f276 := Tryz.func64.trans (congrArg some (by kernel_rfl))
  t0 := Tryz.underlying0
  a0 := Tryz.isAgg0
  z0 := Tryz.sizeOf0
  v0 := Tryz.zeroValue0
  t4 := Tryz.underlying4
  a4 := Tryz.isAgg4
  z4 := Tryz.sizeOf4
  v4 := Tryz.zeroValue4
  t5 := Tryz.underlying5
  a5 := Tryz.isAgg5
  z5 := Tryz.sizeOf5
  v5 := Tryz.zeroValue5
  t9 := Tryz.underlying9
  a9 := Tryz.isAgg9
  z9 := Tryz.sizeOf9
  v9 := Tryz.zeroValue9
  t20 := Tryz.underlying20
  a20 := Tryz.isAgg20
  z20 := Tryz.sizeOf20
  v20 := Tryz.zeroValue20
  t37 := Tryz.underlying37
  a37 := Tryz.isAgg37
  z37 := Tryz.sizeOf37
  v37 := Tryz.zeroValue37
  t70 := Tryz.underlying55
  a70 := Tryz.isAgg55
  z70 := Tryz.sizeOf55
  v70 := Tryz.zeroValue55
  t72 := Tryz.underlying57
  a72 := Tryz.isAgg57
  z72 := Tryz.sizeOf57
  v72 := Tryz.zeroValue57
  t75 := Tryz.underlying59
  a75 := Tryz.isAgg59
  z75 := Tryz.sizeOf59
  v75 := Tryz.zeroValue59
  t164 := Tryz.underlying105
  a164 := Tryz.isAgg105
  z164 := Tryz.sizeOf105
  v164 := Tryz.zeroValue105 }
def lays166_ren : Go.Shelf.Ren := ⟨fun | 166 => 26 | 167 => 28 | 240 => 47 | 276 => 64 | 169 => 29 | n => n, fun | 70 => 55 | 72 => 57 | 37 => 37 | 75 => 59 | 80 => 65 | 164 => 105 | 127 => 84 | n => n, fun | n => n⟩
theorem lays166 : Go.Proofs.Lays.n166 Tryz.prog lays166_ren := {
  mixed := by kernel_rfl
  f166 := Tryz.func26.trans (congrArg some (by kernel_rfl))
  f240 := Tryz.func47.trans (congrArg some (by kernel_rfl))
  f276 := Tryz.func64.trans (congrArg some (by kernel_rfl))
  t0 := Tryz.underlying0
  a0 := Tryz.isAgg0
  z0 := Tryz.sizeOf0
  v0 := Tryz.zeroValue0
  t3 := Tryz.underlying3
  a3 := Tryz.isAgg3
  z3 := Tryz.sizeOf3
  v3 := Tryz.zeroValue3
  t4 := Tryz.underlying4
  a4 := Tryz.isAgg4
  z4 := Tryz.sizeOf4
  v4 := Tryz.zeroValue4
  t9 := Tryz.underlying9
  a9 := Tryz.isAgg9
  z9 := Tryz.sizeOf9
  v9 := Tryz.zeroValue9
  t20 := Tryz.underlying20
  a20 := Tryz.isAgg20
  z20 := Tryz.sizeOf20
  v20 := Tryz.zeroValue20
  t37 := Tryz.underlying37
  a37 := Tryz.isAgg37
  z37 := Tryz.sizeOf37
  v37 := Tryz.zeroValue37
  t70 := Tryz.underlying55
  a70 := Tryz.isAgg55
  z70 := Tryz.sizeOf55
  v70 := Tryz.zeroValue55
  t72 := Tryz.underlying57
  a72 := Tryz.isAgg57
  z72 := Tryz.sizeOf57
  v72 := Tryz.zeroValue57
  t75 := Tryz.underlying59
  a75 := Tryz.isAgg59
  z75 := Tryz.sizeOf59
  v75 := Tryz.zeroValue59
  t164 := Tryz.underlying105
  a164 := Tryz.isAgg105
  z164 := Tryz.sizeOf105
  v164 := Tryz.zeroValue105 }
def lays169_ren : Go.Shelf.Ren := ⟨fun | 166 => 26 | 167 => 28 | 240 => 47 | 276 => 64 | 169 => 29 | n => n, fun | 70 => 55 | 72 => 57 | 37 => 37 | 75 => 59 | 80 => 65 | 164 => 105 | 127 => 84 | n => n, fun | n => n⟩
theorem lays169 : Go.Proofs.Lays.n169 Tryz.prog lays169_ren := {
  mixed := by kernel_rfl
  f169 := Tryz.func29.trans (congrArg some (by kernel_rfl))
  t0 := Tryz.underlying0
  a0 := Tryz.isAgg0
  z0 := Tryz.sizeOf0
  v0 := Tryz.zeroValue0
  t3 := Tryz.underlying3
  a3 := Tryz.isAgg3
  z3 := Tryz.sizeOf3
  v3 := Tryz.zeroValue3
  t9 := Tryz.underlying9
  a9 := Tryz.isAgg9
  z9 := Tryz.sizeOf9
  v9 := Tryz.zeroValue9
  t37 := Tryz.underlying37
  a37 := Tryz.isAgg37
  z37 := Tryz.sizeOf37
  v37 := Tryz.zeroValue37
  t70 := Tryz.underlying55
  a70 := Tryz.isAgg55
  z70 := Tryz.sizeOf55
  v70 := Tryz.zeroValue55
  t72 := Tryz.underlying57
  a72 := Tryz.isAgg57
  z72 := Tryz.sizeOf57
  v72 := Tryz.zeroValue57
  t127 := Tryz.underlying84
  a127 := Tryz.isAgg84
  z127 := Tryz.sizeOf84
  v127 := Tryz.zeroValue84 }
theorem bX_240 : Go.Proofs.Builder.X72 Tryz.prog lays240_ren := {
  sizeBuilder := by kernel_rfl
  liesBuilder := by kernel_rfl }
theorem bX_167 : Go.Proofs.Builder.Extra Tryz.prog lays167_ren := {
  sizeBuilder := by kernel_rfl
  liesBuilder := by kernel_rfl
  t5 := Tryz.underlying5
  a5 := Tryz.isAgg5
  z5 := Tryz.sizeOf5
  v5 := Tryz.zeroValue5
  infoByte := by kernel_rfl
  cellsByte := by kernel_rfl
  sizeByte := by kernel_rfl
  neB5 := by decide }
theorem bX_166 : Go.Proofs.Builder.Extra Tryz.prog lays166_ren := {
  sizeBuilder := by kernel_rfl
  liesBuilder := by kernel_rfl
  t5 := Tryz.underlying5
  a5 := Tryz.isAgg5
  z5 := Tryz.sizeOf5
  v5 := Tryz.zeroValue5
  infoByte := by kernel_rfl
  cellsByte := by kernel_rfl
  sizeByte := by kernel_rfl
  neB5 := by decide }
theorem bX_169 : Go.Proofs.Builder.Extra Tryz.prog lays169_ren := {
  sizeBuilder := by kernel_rfl
  liesBuilder := by kernel_rfl
  t5 := Tryz.underlying5
  a5 := Tryz.isAgg5
  z5 := Tryz.sizeOf5
  v5 := Tryz.zeroValue5
  infoByte := by kernel_rfl
  cellsByte := by kernel_rfl
  sizeByte := by kernel_rfl
  neB5 := by decide }
end Sh
end Go.Proofs.YtknidebojogodaaGreatDoor
/- THE LIBRARY's CONTRACTS AT THIS PROGRAM: laid by the shelf's own programs (plain words). -/
set_option linter.unusedSimpArgs false
set_option linter.unusedVariables false
namespace Go.Proofs.YtknidebojogodaaGreatDoor
namespace Sh
open Go.Shelf
def laysM171_ren : Go.Shelf.Ren := ⟨fun | 171 => 27 | 243 => 48 | 246 => 65 | 283 => 77 | 284 => 78 | 285 => 79 | 286 => 80 | 129 => 96 | 317 => 95 | 318 => 97 | 319 => 98 | 320 => 99 | 337 => 110 | 338 => 111 | n => n, fun | 3 => 3 | 9 => 9 | 2 => 2 | 4 => 4 | 171 => 116 | 0 => 0 | 53 => 102 | 37 => 37 | 5 => 5 | 173 => 119 | 212 => 130 | 51 => 99 | 20 => 20 | 213 => 131 | 46 => 78 | 232 => 154 | 233 => 155 | n => n, fun | 17 => 2 | 18 => 7 | 19 => 8 | n => n⟩
theorem laysM171 : Go.Proofs.LaysM.n171 Tryz.prog laysM171_ren := {
  mixed := by kernel_rfl
  f129 := Tryz.func96.trans (congrArg some (by kernel_rfl))
  f171 := Tryz.func27.trans (congrArg some (by kernel_rfl))
  f243 := Tryz.func48.trans (congrArg some (by kernel_rfl))
  f246 := Tryz.func65.trans (congrArg some (by kernel_rfl))
  f283 := Tryz.func77.trans (congrArg some (by kernel_rfl))
  f284 := Tryz.func78.trans (congrArg some (by kernel_rfl))
  f285 := Tryz.func79.trans (congrArg some (by kernel_rfl))
  f286 := Tryz.func80.trans (congrArg some (by kernel_rfl))
  f317 := Tryz.func95.trans (congrArg some (by kernel_rfl))
  f318 := Tryz.func97.trans (congrArg some (by kernel_rfl))
  f319 := Tryz.func98.trans (congrArg some (by kernel_rfl))
  f320 := Tryz.func99.trans (congrArg some (by kernel_rfl))
  f337 := Tryz.func110.trans (congrArg some (by kernel_rfl))
  f338 := Tryz.func111.trans (congrArg some (by kernel_rfl))
  t0 := Tryz.underlying0
  a0 := Tryz.isAgg0
  z0 := Tryz.sizeOf0
  v0 := Tryz.zeroValue0
  t2 := Tryz.underlying2
  a2 := Tryz.isAgg2
  z2 := Tryz.sizeOf2
  v2 := Tryz.zeroValue2
  t3 := Tryz.underlying3
  a3 := Tryz.isAgg3
  z3 := Tryz.sizeOf3
  v3 := Tryz.zeroValue3
  t4 := Tryz.underlying4
  a4 := Tryz.isAgg4
  z4 := Tryz.sizeOf4
  v4 := Tryz.zeroValue4
  t5 := Tryz.underlying5
  a5 := Tryz.isAgg5
  z5 := Tryz.sizeOf5
  v5 := Tryz.zeroValue5
  t9 := Tryz.underlying9
  a9 := Tryz.isAgg9
  z9 := Tryz.sizeOf9
  v9 := Tryz.zeroValue9
  t20 := Tryz.underlying20
  a20 := Tryz.isAgg20
  z20 := Tryz.sizeOf20
  v20 := Tryz.zeroValue20
  t37 := Tryz.underlying37
  a37 := Tryz.isAgg37
  z37 := Tryz.sizeOf37
  v37 := Tryz.zeroValue37
  t46 := Tryz.underlying78
  a46 := Tryz.isAgg78
  z46 := Tryz.sizeOf78
  v46 := Tryz.zeroValue78
  t51 := Tryz.underlying99
  a51 := Tryz.isAgg99
  z51 := Tryz.sizeOf99
  v51 := Tryz.zeroValue99
  t53 := Tryz.underlying102
  a53 := Tryz.isAgg102
  z53 := Tryz.sizeOf102
  v53 := Tryz.zeroValue102
  t171 := Tryz.underlying116
  a171 := Tryz.isAgg116
  z171 := Tryz.sizeOf116
  v171 := Tryz.zeroValue116
  t173 := Tryz.underlying119
  a173 := Tryz.isAgg119
  z173 := Tryz.sizeOf119
  v173 := Tryz.zeroValue119
  t212 := Tryz.underlying130
  a212 := Tryz.isAgg130
  z212 := Tryz.sizeOf130
  v212 := Tryz.zeroValue130
  t213 := Tryz.underlying131
  a213 := Tryz.isAgg131
  z213 := Tryz.sizeOf131
  t232 := Tryz.underlying154
  a232 := Tryz.isAgg154
  z232 := Tryz.sizeOf154
  v232 := Tryz.zeroValue154
  t233 := Tryz.underlying155
  a233 := Tryz.isAgg155
  z233 := Tryz.sizeOf155
  v233 := Tryz.zeroValue155
  g17 := by kernel_rfl
  g18 := by kernel_rfl
  g19 := by kernel_rfl
  i0 := by kernel_rfl
  i2 := by kernel_rfl
  i3 := by kernel_rfl
  i4 := by kernel_rfl
  i5 := by kernel_rfl
  i9 := by kernel_rfl
  i20 := by kernel_rfl
  i37 := by kernel_rfl
  i46 := by kernel_rfl
  i51 := by kernel_rfl
  i53 := by kernel_rfl
  i171 := by kernel_rfl
  i173 := by kernel_rfl
  i212 := by kernel_rfl
  i232 := by kernel_rfl
  i233 := by kernel_rfl
  m17 := by kernel_rfl
  m18 := by kernel_rfl
  m19 := by kernel_rfl }
def lays146_ren : Go.Shelf.Ren := ⟨fun | 146 => 16 | 221 => 34 | 268 => 49 | 138 => 50 | 143 => 51 | 195 => 66 | 197 => 67 | 218 => 68 | 219 => 69 | 260 => 81 | 217 => 82 | 225 => 83 | 224 => 84 | 267 => 85 | 266 => 100 | 314 => 101 | n => n, fun | 9 => 9 | 31 => 32 | 3 => 3 | 4 => 4 | 0 => 0 | 105 => 109 | 21 => 21 | 5 => 5 | 46 => 78 | 119 => 133 | 139 => 136 | 138 => 135 | 146 => 100 | 51 => 99 | n => n, fun | 1 => 1 | 3 => 3 | 4 => 4 | n => n⟩
theorem lays146 : Go.Proofs.Lays.n146 Tryz.prog lays146_ren := {
  mixed := by kernel_rfl
  f138 := Tryz.func50.trans (congrArg some (by kernel_rfl))
  f143 := Tryz.func51.trans (congrArg some (by kernel_rfl))
  f146 := Tryz.func16.trans (congrArg some (by kernel_rfl))
  f195 := Tryz.func66.trans (congrArg some (by kernel_rfl))
  f197 := Tryz.func67.trans (congrArg some (by kernel_rfl))
  f217 := Tryz.func82.trans (congrArg some (by kernel_rfl))
  f218 := Tryz.func68.trans (congrArg some (by kernel_rfl))
  f219 := Tryz.func69.trans (congrArg some (by kernel_rfl))
  f221 := Tryz.func34.trans (congrArg some (by kernel_rfl))
  f224 := Tryz.func84.trans (congrArg some (by kernel_rfl))
  f225 := Tryz.func83.trans (congrArg some (by kernel_rfl))
  f260 := Tryz.func81.trans (congrArg some (by kernel_rfl))
  f266 := Tryz.func100.trans (congrArg some (by kernel_rfl))
  f267 := Tryz.func85.trans (congrArg some (by kernel_rfl))
  f268 := Tryz.func49.trans (congrArg some (by kernel_rfl))
  f314 := Tryz.func101.trans (congrArg some (by kernel_rfl))
  t0 := Tryz.underlying0
  a0 := Tryz.isAgg0
  z0 := Tryz.sizeOf0
  v0 := Tryz.zeroValue0
  t3 := Tryz.underlying3
  a3 := Tryz.isAgg3
  z3 := Tryz.sizeOf3
  v3 := Tryz.zeroValue3
  t4 := Tryz.underlying4
  a4 := Tryz.isAgg4
  z4 := Tryz.sizeOf4
  v4 := Tryz.zeroValue4
  t5 := Tryz.underlying5
  a5 := Tryz.isAgg5
  z5 := Tryz.sizeOf5
  v5 := Tryz.zeroValue5
  t9 := Tryz.underlying9
  a9 := Tryz.isAgg9
  z9 := Tryz.sizeOf9
  v9 := Tryz.zeroValue9
  t21 := Tryz.underlying21
  a21 := Tryz.isAgg21
  z21 := Tryz.sizeOf21
  v21 := Tryz.zeroValue21
  t31 := Tryz.underlying32
  a31 := Tryz.isAgg32
  z31 := Tryz.sizeOf32
  v31 := Tryz.zeroValue32
  t46 := Tryz.underlying78
  a46 := Tryz.isAgg78
  z46 := Tryz.sizeOf78
  v46 := Tryz.zeroValue78
  t51 := Tryz.underlying99
  a51 := Tryz.isAgg99
  z51 := Tryz.sizeOf99
  v51 := Tryz.zeroValue99
  t105 := Tryz.underlying109
  a105 := Tryz.isAgg109
  z105 := Tryz.sizeOf109
  v105 := Tryz.zeroValue109
  t119 := Tryz.underlying133
  a119 := Tryz.isAgg133
  z119 := Tryz.sizeOf133
  t138 := Tryz.underlying135
  a138 := Tryz.isAgg135
  z138 := Tryz.sizeOf135
  v138 := Tryz.zeroValue135
  t139 := Tryz.underlying136
  a139 := Tryz.isAgg136
  z139 := Tryz.sizeOf136
  v139 := Tryz.zeroValue136
  t146 := Tryz.underlying100
  a146 := Tryz.isAgg100
  z146 := Tryz.sizeOf100
  v146 := Tryz.zeroValue100
  g1 := by kernel_rfl
  g3 := by kernel_rfl
  g4 := by kernel_rfl }
def lays229_ren : Go.Shelf.Ren := ⟨fun | 229 => 31 | n => n, fun | 9 => 9 | 40 => 67 | 31 => 32 | 152 => 85 | 3 => 3 | 0 => 0 | 4 => 4 | 21 => 21 | 154 => 87 | n => n, fun | n => n⟩
theorem lays229 : Go.Proofs.Lays.n229 Tryz.prog lays229_ren := {
  mixed := by kernel_rfl
  f229 := Tryz.func31.trans (congrArg some (by kernel_rfl))
  t0 := Tryz.underlying0
  a0 := Tryz.isAgg0
  z0 := Tryz.sizeOf0
  v0 := Tryz.zeroValue0
  t3 := Tryz.underlying3
  a3 := Tryz.isAgg3
  z3 := Tryz.sizeOf3
  v3 := Tryz.zeroValue3
  t4 := Tryz.underlying4
  a4 := Tryz.isAgg4
  z4 := Tryz.sizeOf4
  v4 := Tryz.zeroValue4
  t9 := Tryz.underlying9
  a9 := Tryz.isAgg9
  z9 := Tryz.sizeOf9
  v9 := Tryz.zeroValue9
  t21 := Tryz.underlying21
  a21 := Tryz.isAgg21
  z21 := Tryz.sizeOf21
  v21 := Tryz.zeroValue21
  t31 := Tryz.underlying32
  a31 := Tryz.isAgg32
  z31 := Tryz.sizeOf32
  v31 := Tryz.zeroValue32
  t40 := Tryz.underlying67
  a40 := Tryz.isAgg67
  z40 := Tryz.sizeOf67
  v40 := Tryz.zeroValue67
  t152 := Tryz.underlying85
  a152 := Tryz.isAgg85
  z152 := Tryz.sizeOf85
  v152 := Tryz.zeroValue85
  t154 := Tryz.underlying87
  a154 := Tryz.isAgg87
  z154 := Tryz.sizeOf87
  v154 := Tryz.zeroValue87 }
def lays160_ren : Go.Shelf.Ren := ⟨fun | 160 => 71 | 232 => 87 | 231 => 86 | 227 => 88 | 234 => 90 | 233 => 89 | 236 => 92 | 235 => 91 | 228 => 102 | 271 => 104 | 151 => 103 | 197 => 67 | 120 => 113 | 152 => 112 | 260 => 81 | 137 => 117 | 119 => 118 | 224 => 84 | 225 => 83 | 217 => 82 | 266 => 100 | n => n, fun | 9 => 9 | 4 => 4 | 3 => 3 | 5 => 5 | 117 => 124 | 116 => 123 | 0 => 0 | 124 => 127 | 21 => 21 | 105 => 109 | 46 => 78 | 119 => 133 | 139 => 136 | 138 => 135 | n => n, fun | 3 => 3 | 4 => 4 | n => n⟩
theorem lays160 : Go.Proofs.Lays.n160 Tryz.prog lays160_ren := {
  mixed := by kernel_rfl
  f119 := Tryz.func118.trans (congrArg some (by kernel_rfl))
  f120 := Tryz.func113.trans (congrArg some (by kernel_rfl))
  f137 := Tryz.func117.trans (congrArg some (by kernel_rfl))
  f151 := Tryz.func103.trans (congrArg some (by kernel_rfl))
  f152 := Tryz.func112.trans (congrArg some (by kernel_rfl))
  f160 := Tryz.func71.trans (congrArg some (by kernel_rfl))
  f197 := Tryz.func67.trans (congrArg some (by kernel_rfl))
  f217 := Tryz.func82.trans (congrArg some (by kernel_rfl))
  f224 := Tryz.func84.trans (congrArg some (by kernel_rfl))
  f225 := Tryz.func83.trans (congrArg some (by kernel_rfl))
  f227 := Tryz.func88.trans (congrArg some (by kernel_rfl))
  f228 := Tryz.func102.trans (congrArg some (by kernel_rfl))
  f231 := Tryz.func86.trans (congrArg some (by kernel_rfl))
  f232 := Tryz.func87.trans (congrArg some (by kernel_rfl))
  f233 := Tryz.func89.trans (congrArg some (by kernel_rfl))
  f234 := Tryz.func90.trans (congrArg some (by kernel_rfl))
  f235 := Tryz.func91.trans (congrArg some (by kernel_rfl))
  f236 := Tryz.func92.trans (congrArg some (by kernel_rfl))
  f260 := Tryz.func81.trans (congrArg some (by kernel_rfl))
  f266 := Tryz.func100.trans (congrArg some (by kernel_rfl))
  f271 := Tryz.func104.trans (congrArg some (by kernel_rfl))
  t0 := Tryz.underlying0
  a0 := Tryz.isAgg0
  z0 := Tryz.sizeOf0
  v0 := Tryz.zeroValue0
  t3 := Tryz.underlying3
  a3 := Tryz.isAgg3
  z3 := Tryz.sizeOf3
  v3 := Tryz.zeroValue3
  t4 := Tryz.underlying4
  a4 := Tryz.isAgg4
  z4 := Tryz.sizeOf4
  v4 := Tryz.zeroValue4
  t5 := Tryz.underlying5
  a5 := Tryz.isAgg5
  z5 := Tryz.sizeOf5
  v5 := Tryz.zeroValue5
  t9 := Tryz.underlying9
  a9 := Tryz.isAgg9
  z9 := Tryz.sizeOf9
  v9 := Tryz.zeroValue9
  t21 := Tryz.underlying21
  a21 := Tryz.isAgg21
  z21 := Tryz.sizeOf21
  v21 := Tryz.zeroValue21
  t46 := Tryz.underlying78
  a46 := Tryz.isAgg78
  z46 := Tryz.sizeOf78
  v46 := Tryz.zeroValue78
  t105 := Tryz.underlying109
  a105 := Tryz.isAgg109
  z105 := Tryz.sizeOf109
  v105 := Tryz.zeroValue109
  t116 := Tryz.underlying123
  a116 := Tryz.isAgg123
  z116 := Tryz.sizeOf123
  t117 := Tryz.underlying124
  a117 := Tryz.isAgg124
  z117 := Tryz.sizeOf124
  v117 := Tryz.zeroValue124
  t119 := Tryz.underlying133
  a119 := Tryz.isAgg133
  z119 := Tryz.sizeOf133
  t124 := Tryz.underlying127
  a124 := Tryz.isAgg127
  z124 := Tryz.sizeOf127
  v124 := Tryz.zeroValue127
  t138 := Tryz.underlying135
  a138 := Tryz.isAgg135
  z138 := Tryz.sizeOf135
  v138 := Tryz.zeroValue135
  t139 := Tryz.underlying136
  a139 := Tryz.isAgg136
  z139 := Tryz.sizeOf136
  v139 := Tryz.zeroValue136
  g3 := by kernel_rfl
  g4 := by kernel_rfl }
def lays172_ren : Go.Shelf.Ren := ⟨fun | 172 => 72 | 244 => 93 | 245 => 94 | 247 => 105 | 279 => 106 | 280 => 107 | 281 => 108 | 282 => 109 | 287 => 114 | 316 => 115 | 171 => 27 | 205 => 116 | 321 => 119 | 322 => 120 | 243 => 48 | 246 => 65 | 283 => 77 | 284 => 78 | 285 => 79 | 286 => 80 | 129 => 96 | 317 => 95 | 318 => 97 | 319 => 98 | 320 => 99 | 337 => 110 | 338 => 111 | n => n, fun | 9 => 9 | 3 => 3 | 75 => 59 | 76 => 60 | 4 => 4 | 5 => 5 | 167 => 140 | 37 => 37 | 0 => 0 | 85 => 141 | 2 => 2 | 168 => 143 | 53 => 102 | 175 => 148 | 46 => 78 | 210 => 152 | 127 => 84 | 145 => 160 | 143 => 158 | 21 => 21 | 171 => 116 | 173 => 119 | 212 => 130 | 51 => 99 | 20 => 20 | 213 => 131 | 232 => 154 | 233 => 155 | 80 => 65 | n => n, fun | 15 => 5 | 16 => 6 | 17 => 2 | 18 => 7 | 19 => 8 | n => n⟩
theorem lays172 : Go.Proofs.Lays.n172 Tryz.prog lays172_ren := {
  mixed := by kernel_rfl
  f129 := Tryz.func96.trans (congrArg some (by kernel_rfl))
  f171 := Tryz.func27.trans (congrArg some (by kernel_rfl))
  f172 := Tryz.func72.trans (congrArg some (by kernel_rfl))
  f205 := Tryz.func116.trans (congrArg some (by kernel_rfl))
  f243 := Tryz.func48.trans (congrArg some (by kernel_rfl))
  f244 := Tryz.func93.trans (congrArg some (by kernel_rfl))
  f245 := Tryz.func94.trans (congrArg some (by kernel_rfl))
  f246 := Tryz.func65.trans (congrArg some (by kernel_rfl))
  f247 := Tryz.func105.trans (congrArg some (by kernel_rfl))
  f279 := Tryz.func106.trans (congrArg some (by kernel_rfl))
  f280 := Tryz.func107.trans (congrArg some (by kernel_rfl))
  f281 := Tryz.func108.trans (congrArg some (by kernel_rfl))
  f282 := Tryz.func109.trans (congrArg some (by kernel_rfl))
  f283 := Tryz.func77.trans (congrArg some (by kernel_rfl))
  f284 := Tryz.func78.trans (congrArg some (by kernel_rfl))
  f285 := Tryz.func79.trans (congrArg some (by kernel_rfl))
  f286 := Tryz.func80.trans (congrArg some (by kernel_rfl))
  f287 := Tryz.func114.trans (congrArg some (by kernel_rfl))
  f316 := Tryz.func115.trans (congrArg some (by kernel_rfl))
  f317 := Tryz.func95.trans (congrArg some (by kernel_rfl))
  f318 := Tryz.func97.trans (congrArg some (by kernel_rfl))
  f319 := Tryz.func98.trans (congrArg some (by kernel_rfl))
  f320 := Tryz.func99.trans (congrArg some (by kernel_rfl))
  f321 := Tryz.func119.trans (congrArg some (by kernel_rfl))
  f322 := Tryz.func120.trans (congrArg some (by kernel_rfl))
  f337 := Tryz.func110.trans (congrArg some (by kernel_rfl))
  f338 := Tryz.func111.trans (congrArg some (by kernel_rfl))
  t0 := Tryz.underlying0
  a0 := Tryz.isAgg0
  z0 := Tryz.sizeOf0
  v0 := Tryz.zeroValue0
  t2 := Tryz.underlying2
  a2 := Tryz.isAgg2
  z2 := Tryz.sizeOf2
  v2 := Tryz.zeroValue2
  t3 := Tryz.underlying3
  a3 := Tryz.isAgg3
  z3 := Tryz.sizeOf3
  v3 := Tryz.zeroValue3
  t4 := Tryz.underlying4
  a4 := Tryz.isAgg4
  z4 := Tryz.sizeOf4
  v4 := Tryz.zeroValue4
  t5 := Tryz.underlying5
  a5 := Tryz.isAgg5
  z5 := Tryz.sizeOf5
  v5 := Tryz.zeroValue5
  t9 := Tryz.underlying9
  a9 := Tryz.isAgg9
  z9 := Tryz.sizeOf9
  v9 := Tryz.zeroValue9
  t20 := Tryz.underlying20
  a20 := Tryz.isAgg20
  z20 := Tryz.sizeOf20
  v20 := Tryz.zeroValue20
  t21 := Tryz.underlying21
  a21 := Tryz.isAgg21
  z21 := Tryz.sizeOf21
  v21 := Tryz.zeroValue21
  t37 := Tryz.underlying37
  a37 := Tryz.isAgg37
  z37 := Tryz.sizeOf37
  v37 := Tryz.zeroValue37
  t46 := Tryz.underlying78
  a46 := Tryz.isAgg78
  z46 := Tryz.sizeOf78
  v46 := Tryz.zeroValue78
  t51 := Tryz.underlying99
  a51 := Tryz.isAgg99
  z51 := Tryz.sizeOf99
  v51 := Tryz.zeroValue99
  t53 := Tryz.underlying102
  a53 := Tryz.isAgg102
  z53 := Tryz.sizeOf102
  v53 := Tryz.zeroValue102
  t75 := Tryz.underlying59
  a75 := Tryz.isAgg59
  z75 := Tryz.sizeOf59
  v75 := Tryz.zeroValue59
  t76 := Tryz.underlying60
  a76 := Tryz.isAgg60
  z76 := Tryz.sizeOf60
  v76 := Tryz.zeroValue60
  t85 := Tryz.underlying141
  a85 := Tryz.isAgg141
  z85 := Tryz.sizeOf141
  v85 := Tryz.zeroValue141
  t127 := Tryz.underlying84
  a127 := Tryz.isAgg84
  z127 := Tryz.sizeOf84
  v127 := Tryz.zeroValue84
  t143 := Tryz.underlying158
  a143 := Tryz.isAgg158
  z143 := Tryz.sizeOf158
  v143 := Tryz.zeroValue158
  t145 := Tryz.underlying160
  a145 := Tryz.isAgg160
  z145 := Tryz.sizeOf160
  v145 := Tryz.zeroValue160
  t167 := Tryz.underlying140
  a167 := Tryz.isAgg140
  z167 := Tryz.sizeOf140
  v167 := Tryz.zeroValue140
  t168 := Tryz.underlying143
  a168 := Tryz.isAgg143
  z168 := Tryz.sizeOf143
  v168 := Tryz.zeroValue143
  t171 := Tryz.underlying116
  a171 := Tryz.isAgg116
  z171 := Tryz.sizeOf116
  v171 := Tryz.zeroValue116
  t173 := Tryz.underlying119
  a173 := Tryz.isAgg119
  z173 := Tryz.sizeOf119
  v173 := Tryz.zeroValue119
  t175 := Tryz.underlying148
  a175 := Tryz.isAgg148
  z175 := Tryz.sizeOf148
  v175 := Tryz.zeroValue148
  t210 := Tryz.underlying152
  a210 := Tryz.isAgg152
  z210 := Tryz.sizeOf152
  v210 := Tryz.zeroValue152
  t212 := Tryz.underlying130
  a212 := Tryz.isAgg130
  z212 := Tryz.sizeOf130
  v212 := Tryz.zeroValue130
  t213 := Tryz.underlying131
  a213 := Tryz.isAgg131
  z213 := Tryz.sizeOf131
  t232 := Tryz.underlying154
  a232 := Tryz.isAgg154
  z232 := Tryz.sizeOf154
  v232 := Tryz.zeroValue154
  t233 := Tryz.underlying155
  a233 := Tryz.isAgg155
  z233 := Tryz.sizeOf155
  v233 := Tryz.zeroValue155
  g15 := by kernel_rfl
  g16 := by kernel_rfl
  g17 := by kernel_rfl
  g18 := by kernel_rfl
  g19 := by kernel_rfl }
def lays156_ren : Go.Shelf.Ren := ⟨fun | 156 => 17 | 165 => 35 | 166 => 26 | 169 => 29 | 240 => 47 | 241 => 52 | 276 => 64 | 277 => 70 | n => n, fun | 31 => 32 | 9 => 9 | 3 => 3 | 4 => 4 | 0 => 0 | 20 => 20 | 72 => 57 | 76 => 60 | 70 => 55 | 37 => 37 | 75 => 59 | 127 => 84 | 164 => 105 | 5 => 5 | 80 => 65 | n => n, fun | n => n⟩
theorem lays156 : Go.Proofs.Lays.n156 Tryz.prog lays156_ren := {
  mixed := by kernel_rfl
  f156 := Tryz.func17.trans (congrArg some (by kernel_rfl))
  f165 := Tryz.func35.trans (congrArg some (by kernel_rfl))
  f166 := Tryz.func26.trans (congrArg some (by kernel_rfl))
  f169 := Tryz.func29.trans (congrArg some (by kernel_rfl))
  f240 := Tryz.func47.trans (congrArg some (by kernel_rfl))
  f241 := Tryz.func52.trans (congrArg some (by kernel_rfl))
  f276 := Tryz.func64.trans (congrArg some (by kernel_rfl))
  f277 := Tryz.func70.trans (congrArg some (by kernel_rfl))
  t0 := Tryz.underlying0
  a0 := Tryz.isAgg0
  z0 := Tryz.sizeOf0
  v0 := Tryz.zeroValue0
  t3 := Tryz.underlying3
  a3 := Tryz.isAgg3
  z3 := Tryz.sizeOf3
  v3 := Tryz.zeroValue3
  t4 := Tryz.underlying4
  a4 := Tryz.isAgg4
  z4 := Tryz.sizeOf4
  v4 := Tryz.zeroValue4
  t9 := Tryz.underlying9
  a9 := Tryz.isAgg9
  z9 := Tryz.sizeOf9
  v9 := Tryz.zeroValue9
  t20 := Tryz.underlying20
  a20 := Tryz.isAgg20
  z20 := Tryz.sizeOf20
  v20 := Tryz.zeroValue20
  t31 := Tryz.underlying32
  a31 := Tryz.isAgg32
  z31 := Tryz.sizeOf32
  v31 := Tryz.zeroValue32
  t37 := Tryz.underlying37
  a37 := Tryz.isAgg37
  z37 := Tryz.sizeOf37
  v37 := Tryz.zeroValue37
  t70 := Tryz.underlying55
  a70 := Tryz.isAgg55
  z70 := Tryz.sizeOf55
  v70 := Tryz.zeroValue55
  t72 := Tryz.underlying57
  a72 := Tryz.isAgg57
  z72 := Tryz.sizeOf57
  v72 := Tryz.zeroValue57
  t75 := Tryz.underlying59
  a75 := Tryz.isAgg59
  z75 := Tryz.sizeOf59
  v75 := Tryz.zeroValue59
  t76 := Tryz.underlying60
  a76 := Tryz.isAgg60
  z76 := Tryz.sizeOf60
  v76 := Tryz.zeroValue60
  t127 := Tryz.underlying84
  a127 := Tryz.isAgg84
  z127 := Tryz.sizeOf84
  v127 := Tryz.zeroValue84
  t164 := Tryz.underlying105
  a164 := Tryz.isAgg105
  z164 := Tryz.sizeOf105
  v164 := Tryz.zeroValue105 }
theorem Builder_Extra_156 : Builder.Extra Tryz.prog lays156_ren := {
  sizeBuilder := by kernel_rfl
  liesBuilder := by kernel_rfl
  t5 := Tryz.underlying5
  a5 := Tryz.isAgg5
  z5 := Tryz.sizeOf5
  v5 := Tryz.zeroValue5
  infoByte := by kernel_rfl
  cellsByte := by kernel_rfl
  sizeByte := by kernel_rfl
  neB5 := by decide }
def lays105_ren : Go.Shelf.Ren := ⟨fun | 105 => 21 | 212 => 43 | 99 => 44 | 165 => 35 | 166 => 26 | 170 => 45 | 169 => 29 | 263 => 61 | 264 => 62 | 206 => 63 | 240 => 47 | 241 => 52 | 276 => 64 | 277 => 70 | n => n, fun | 9 => 9 | 3 => 3 | 4 => 4 | 20 => 20 | 0 => 0 | 46 => 78 | 109 => 79 | 5 => 5 | 72 => 57 | 76 => 60 | 51 => 99 | 146 => 100 | 53 => 102 | 148 => 103 | 70 => 55 | 37 => 37 | 75 => 59 | 127 => 84 | 164 => 105 | 80 => 65 | n => n, fun | n => n⟩
theorem lays105 : Go.Proofs.Lays.n105 Tryz.prog lays105_ren := {
  mixed := by kernel_rfl
  f99 := Tryz.func44.trans (congrArg some (by kernel_rfl))
  f105 := Tryz.func21.trans (congrArg some (by kernel_rfl))
  f165 := Tryz.func35.trans (congrArg some (by kernel_rfl))
  f166 := Tryz.func26.trans (congrArg some (by kernel_rfl))
  f169 := Tryz.func29.trans (congrArg some (by kernel_rfl))
  f170 := Tryz.func45.trans (congrArg some (by kernel_rfl))
  f206 := Tryz.func63.trans (congrArg some (by kernel_rfl))
  f212 := Tryz.func43.trans (congrArg some (by kernel_rfl))
  f240 := Tryz.func47.trans (congrArg some (by kernel_rfl))
  f241 := Tryz.func52.trans (congrArg some (by kernel_rfl))
  f263 := Tryz.func61.trans (congrArg some (by kernel_rfl))
  f264 := Tryz.func62.trans (congrArg some (by kernel_rfl))
  f276 := Tryz.func64.trans (congrArg some (by kernel_rfl))
  f277 := Tryz.func70.trans (congrArg some (by kernel_rfl))
  t0 := Tryz.underlying0
  a0 := Tryz.isAgg0
  z0 := Tryz.sizeOf0
  v0 := Tryz.zeroValue0
  t3 := Tryz.underlying3
  a3 := Tryz.isAgg3
  z3 := Tryz.sizeOf3
  v3 := Tryz.zeroValue3
  t4 := Tryz.underlying4
  a4 := Tryz.isAgg4
  z4 := Tryz.sizeOf4
  v4 := Tryz.zeroValue4
  t5 := Tryz.underlying5
  a5 := Tryz.isAgg5
  z5 := Tryz.sizeOf5
  v5 := Tryz.zeroValue5
  t9 := Tryz.underlying9
  a9 := Tryz.isAgg9
  z9 := Tryz.sizeOf9
  v9 := Tryz.zeroValue9
  t20 := Tryz.underlying20
  a20 := Tryz.isAgg20
  z20 := Tryz.sizeOf20
  v20 := Tryz.zeroValue20
  t37 := Tryz.underlying37
  a37 := Tryz.isAgg37
  z37 := Tryz.sizeOf37
  v37 := Tryz.zeroValue37
  t46 := Tryz.underlying78
  a46 := Tryz.isAgg78
  z46 := Tryz.sizeOf78
  v46 := Tryz.zeroValue78
  t51 := Tryz.underlying99
  a51 := Tryz.isAgg99
  z51 := Tryz.sizeOf99
  v51 := Tryz.zeroValue99
  t53 := Tryz.underlying102
  a53 := Tryz.isAgg102
  z53 := Tryz.sizeOf102
  v53 := Tryz.zeroValue102
  t70 := Tryz.underlying55
  a70 := Tryz.isAgg55
  z70 := Tryz.sizeOf55
  v70 := Tryz.zeroValue55
  t72 := Tryz.underlying57
  a72 := Tryz.isAgg57
  z72 := Tryz.sizeOf57
  v72 := Tryz.zeroValue57
  t75 := Tryz.underlying59
  a75 := Tryz.isAgg59
  z75 := Tryz.sizeOf59
  v75 := Tryz.zeroValue59
  t76 := Tryz.underlying60
  a76 := Tryz.isAgg60
  z76 := Tryz.sizeOf60
  v76 := Tryz.zeroValue60
  t109 := Tryz.underlying79
  a109 := Tryz.isAgg79
  z109 := Tryz.sizeOf79
  v109 := Tryz.zeroValue79
  t127 := Tryz.underlying84
  a127 := Tryz.isAgg84
  z127 := Tryz.sizeOf84
  v127 := Tryz.zeroValue84
  t146 := Tryz.underlying100
  a146 := Tryz.isAgg100
  z146 := Tryz.sizeOf100
  v146 := Tryz.zeroValue100
  t148 := Tryz.underlying103
  a148 := Tryz.isAgg103
  z148 := Tryz.sizeOf103
  v148 := Tryz.zeroValue103
  t164 := Tryz.underlying105
  a164 := Tryz.isAgg105
  z164 := Tryz.sizeOf105
  v164 := Tryz.zeroValue105 }
theorem Builder_Extra_105 : Builder.Extra Tryz.prog lays105_ren := {
  sizeBuilder := by kernel_rfl
  liesBuilder := by kernel_rfl
  t5 := Tryz.underlying5
  a5 := Tryz.isAgg5
  z5 := Tryz.sizeOf5
  v5 := Tryz.zeroValue5
  infoByte := by kernel_rfl
  cellsByte := by kernel_rfl
  sizeByte := by kernel_rfl
  neB5 := by decide }
open Go.RowKit Go.Sort Go.Lib in
theorem strconv_Itoa (n : Int) (h0 : -9223372036854775808 ≤ n) (h1 : n ≤ 9223372036854775807) (w : World) (htab : Lib.TabIs Tryz.prog w "internal/strconv.uint64pow10" .u64 Lib.pow10Tab) :
    Calls Tryz.prog 27 #[.int .i64 n] w fun e w' => e = .returned (.string ⟨(Lib.itoa n).toArray⟩) ∧ ∃ k os, w' = grow (w.drewN k) os := Any.strconv_Itoa laysM171 n h0 h1 w htab
open Go.RowKit Go.Lib in
theorem strings_Split (s sep : ByteArray) (m : Int) (w : World) (hs : s.size < 4294967281) (hm : w.cell? ⟨1, 0, none⟩ = some (.int .i64 m)) (h1 : 1 ≤ sep.size) :
    Calls Tryz.prog 16 #[.string s, .string sep] w fun e w' =>
      e = .returned (.slice (some ⟨w.heap.size, 0, none⟩) (Lib.countB s sep + 1) (Lib.countB s sep + 1)) ∧ w' = w.alloc (.cells ((Lib.splitB sep 0 (Lib.countB s sep) s).map Value.string).toArray 9) := Any.strings_Split lays146 (by kernel_rfl) s sep m w hs hm h1
open Go.RowKit Go.Lib in
theorem strings_FieldsFunc (g : Nat) (lb : Array Value) (eg : ∀ args w, (callFunc g args).run Tryz.prog w = .ok (.enter g args) w) (p : Nat → Bool) (s : ByteArray) (w : World) (hs : s.size ≤ 4294967296) (hp : PredAt Tryz.prog g lb encR p w) :
    Calls Tryz.prog 31 #[.string s, .func (.func g) #[] lb] w fun e w' => ∃ A, e = .returned (.slice (some ⟨A, 0, none⟩) (Lib.goFieldsP p s).length (Lib.goFieldsP p s).length) ∧ w.heap.size ≤ A ∧
      w'.ownsRow w.heap.size 9 1 (.slice (some ⟨A, 0, none⟩) (Lib.goFieldsP p s).length (Lib.goFieldsP p s).length) (Lib.goFieldsP p s).length ((Lib.goFieldsP p s).map Value.string) ∧ Below w.heap.size w w' := Any.strings_FieldsFunc lays229 g lb eg p s w hs hp (by kernel_rfl) (by kernel_rfl)
open Go.RowKit in
theorem strconv_Atoi (s : ByteArray) (n : Int) (hl : s.size ≤ 18) (h : Lib.atoi s.data.toList = some n) (w : World) :
    Calls Tryz.prog 72 #[.string s] w fun e w' => e = .returned (.tuple #[.int .i64 n, .nilIface]) ∧ ∃ t, w' = Lib.bytesWorld w 5 t := Any.strconv_Atoi lays172 s n hl h w
open Go.RowKit in
theorem strings_Join_none (a : Option Addr) (c : Nat) (sep : ByteArray) (w : World) :
    Calls Tryz.prog 17 #[.slice a 0 c, .string sep] w fun e w' => e = .returned (.string ⟨#[]⟩) ∧ w' = w := Any.strings_Join_none lays156 Builder_Extra_156 a c sep w
open Go.RowKit in
theorem strings_Join (bk o c : Nat) (xs : List ByteArray) (sep : ByteArray) (w : World) (hcells : ∀ (j : Nat) x, xs[j]? = some x → w.cell? ⟨bk, o + j, none⟩ = some (.string x)) (hbk : bk < w.heap.size) (hN : xs.length ≤ 140737488355328) (hcap : xs.length ≤ c) (hlen : (Lib.join (xs.map (·.data.toList)) sep.data.toList).length ≤ 140737488355328) :
    Calls Tryz.prog 17 #[.slice (some ⟨bk, o, none⟩) xs.length c, .string sep] w fun e w' => e = .returned (.string ⟨(Lib.join (xs.map (·.data.toList)) sep.data.toList).toArray⟩) ∧ Below w.heap.size w w' := Any.strings_Join lays156 Builder_Extra_156 bk o c xs sep w hcells hbk hN hcap hlen
open Go.RowKit Go.Lib in
theorem strings_Repeat (s : ByteArray) (c : Nat) (w : World) (hc : c ≤ 9223372036854775807) (hlen : s.size * c ≤ 140737488355328) :
    Calls Tryz.prog 21 #[.string s, .int .i64 c] w fun e w' => e = .returned (.string ⟨(Lib.repeatL s.data.toList c).toArray⟩) ∧ Below w.heap.size w w' := Any.strings_Repeat lays105 Builder_Extra_105 s c w hc hlen
end Sh
end Go.Proofs.YtknidebojogodaaGreatDoor
/- WORDS OF A TEXT: parts between bytes of a kind; what strings.FieldsFunc gives where blanks and line feeds part the words. No program in sight. -/
set_option linter.unusedSimpArgs false
set_option linter.unusedVariables false
namespace Go.Proofs.YtknidebojogodaaGreatDoor
namespace Pv
open Go.Lib
def splitP (p : UInt8 → Bool) : List UInt8 → List (List UInt8)
  | [] => [[]]
  | x :: xs => if p x = true then [] :: splitP p xs else match splitP p xs with
    | [] => [[x]]
    | h :: t => (x :: h) :: t
def wordsB (p : UInt8 → Bool) (l : List UInt8) : List (List UInt8) := (splitP p l).filter fun x => !x.isEmpty
def isBl (b : UInt8) : Bool := b == 32 || b == 10
theorem isBl_iff (b : UInt8) : isBl b = true ↔ b = 32 ∨ b = 10 := by simp [isBl]
theorem isBl_not {b : UInt8} (h : ¬ (b = 32 ∨ b = 10)) : isBl b = false := by
  cases hb : isBl b with
  | false => rfl
  | true => exact absurd ((isBl_iff b).1 hb) h
theorem splitP_sep (p : UInt8 → Bool) : ∀ (u : List UInt8) (c : UInt8) (t : List UInt8), (∀ x ∈ u, p x = false) → p c = true → splitP p (u ++ c :: t) = u :: splitP p t
  | [], c, t, _, hc => by simp [splitP, hc]
  | x :: u, c, t, hu, hc => by
    have ih := splitP_sep p u c t (fun y hy => hu y (List.mem_cons_of_mem _ hy)) hc
    have hx := hu x (List.mem_cons_self ..)
    simp [splitP, hx, ih]
theorem splitP_none (p : UInt8 → Bool) : ∀ (u : List UInt8), (∀ x ∈ u, p x = false) → splitP p u = [u]
  | [], _ => rfl
  | x :: u, hu => by
    have ih := splitP_none p u fun y hy => hu y (List.mem_cons_of_mem _ hy)
    have hx := hu x (List.mem_cons_self ..)
    simp [splitP, hx, ih]
theorem words_sep {p : UInt8 → Bool} {u : List UInt8} {c : UInt8} {t : List UInt8} (hu : ∀ x ∈ u, p x = false) (h0 : u ≠ []) (hc : p c = true) : wordsB p (u ++ c :: t) = u :: wordsB p t := by
  unfold wordsB
  rw [splitP_sep p u c t hu hc, List.filter_cons_of_pos (by simp [h0])]
theorem words_blank {p : UInt8 → Bool} {c : UInt8} {t : List UInt8} (hc : p c = true) : wordsB p (c :: t) = wordsB p t := by
  unfold wordsB
  rw [show c :: t = [] ++ c :: t from rfl, splitP_sep p [] c t (by simp) hc, List.filter_cons_of_neg (by simp)]
theorem words_none {p : UInt8 → Bool} {u : List UInt8} (hu : ∀ x ∈ u, p x = false) (h0 : u ≠ []) : wordsB p u = [u] := by
  unfold wordsB
  rw [splitP_none p u hu, List.filter_cons_of_pos (by simp [h0]), List.filter_nil]
theorem words_nil (p : UInt8 → Bool) : wordsB p [] = [] := rfl
theorem blank_rune (l : List UInt8) (hne : l ≠ []) (h : (decodeL l).1 = 32 ∨ (decodeL l).1 = 10) : (decodeL l).2 = 1 ∧ (l.getD 0 0 = 32 ∨ l.getD 0 0 = 10) := by
  rw [decodeL_N] at h ⊢
  have h0 := UInt8.toNat_lt (l.getD 0 0)
  have key : ∀ n b0 b1 b2 b3 : Nat, ((decodeN n b0 b1 b2 b3).1 = 32 → (decodeN n b0 b1 b2 b3).2 = 1 ∧ b0 = 32) ∧ ((decodeN n b0 b1 b2 b3).1 = 10 → (decodeN n b0 b1 b2 b3).2 = 1 ∧ b0 = 10) := by
    intro n b0 b1 b2 b3
    unfold decodeN
    repeat' split
    all_goals (refine ⟨fun h => ?_, fun h => ?_⟩ <;> dsimp only at h ⊢ <;> omega)
  rcases h with h | h
  · obtain ⟨k1, k2⟩ := (key _ _ _ _ _).1 h
    exact ⟨k1, .inl (UInt8.toNat_inj.1 k2)⟩
  · obtain ⟨k1, k2⟩ := (key _ _ _ _ _).2 h
    exact ⟨k1, .inr (UInt8.toNat_inj.1 k2)⟩
theorem other_rune (l : List UInt8) (hne : l ≠ []) (h : ¬ ((decodeL l).1 = 32 ∨ (decodeL l).1 = 10)) : 1 ≤ (decodeL l).2 ∧ (decodeL l).2 ≤ l.length ∧ ∀ j, j < (decodeL l).2 → ¬ (l.getD j 0 = 32 ∨ l.getD j 0 = 10) := by
  have hl : 0 < l.length := List.length_pos_iff.2 hne
  have hc := decodeN_conts l.length (l.getD 0 0).toNat (l.getD 1 0).toNat (l.getD 2 0).toNat (l.getD 3 0).toNat
  have ha : (l.getD 0 0 = 32 ∨ l.getD 0 0 = 10) → ((decodeL l).1 = 32 ∨ (decodeL l).1 = 10) := fun e => by
    rw [decodeL_N]
    rcases e with e | e
    · rw [e, show (32 : UInt8).toNat = 32 from rfl]
      exact .inl (by unfold decodeN; rfl)
    · rw [e, show (10 : UInt8).toNat = 10 from rfl]
      exact .inr (by unfold decodeN; rfl)
  rw [← decodeL_N] at hc
  obtain ⟨c2, c3, c4, c5⟩ := hc
  have hw := decodeL_width l
  refine ⟨hw, by omega, fun j hj e => ?_⟩
  have hlow : ∀ b : UInt8, (b = 32 ∨ b = 10) → b.toNat ≤ 32 := fun b hb => by
    rcases hb with rfl | rfl <;> decide
  have hle := hlow _ e
  match j, hj, e, hle with
  | 0, _, e, _ => exact h (ha e)
  | 1, hj, e, hle => have := (c2 (by omega)).1; omega
  | 2, hj, e, hle => have := (c3 (by omega)).1; omega
  | 3, hj, e, hle => have := (c4 (by omega)).1; omega
  | j + 4, hj, _, _ => omega
def pcs (l : List UInt8) (acc : List (Nat × Nat)) : List (List UInt8) := acc.map fun x => (l.take x.2).drop x.1
theorem spans_words (l : List UInt8) : ∀ (f pos : Nat) (st : Option Nat) (acc : List (Nat × Nat)), pos ≤ l.length → l.length ≤ f + pos → (∀ a, st = some a → a < pos ∧ ∀ j, a ≤ j → j < pos → ¬ (l.getD j 0 = 32 ∨ l.getD j 0 = 10)) →
    pcs l (closeSpans ⟨l.toArray⟩ (spansFromP (fun r => decide ((r : Int) = 32 ∨ (r : Int) = 10)) ⟨l.toArray⟩ f pos st acc)) = pcs l acc ++ wordsB isBl (l.drop (st.getD pos)) := by
  intro f
  have hsz : (⟨l.toArray⟩ : ByteArray).size = l.length := rfl
  have hfin : ∀ (st : Option Nat) (acc : List (Nat × Nat)), (∀ a, st = some a → a < l.length ∧ ∀ j, a ≤ j → j < l.length → ¬ (l.getD j 0 = 32 ∨ l.getD j 0 = 10)) → pcs l (closeSpans ⟨l.toArray⟩ (acc, st)) = pcs l acc ++ wordsB isBl (l.drop (st.getD l.length)) := by
    intro st acc hst
    cases st with
    | none => simp [closeSpans, words_nil]
    | some a =>
      obtain ⟨h1, h2⟩ := hst a rfl
      have hne : l.drop a ≠ [] := by
        intro h0
        have := congrArg List.length h0
        rw [List.length_drop] at this
        simp at this; omega
      have hno : ∀ x ∈ l.drop a, isBl x = false := fun x hx => by
        obtain ⟨k, hk⟩ := List.getElem?_of_mem hx
        rw [List.getElem?_drop] at hk
        have hlt := (List.getElem?_eq_some_iff.1 hk).1
        have := h2 (a + k) (by omega) hlt
        simp only [List.getD, hk, Option.getD_some] at this
        exact isBl_not this
      simp only [Option.getD_some]
      rw [words_none hno hne]
      simp [closeSpans, pcs, hsz]
  induction f with
  | zero =>
    intro pos st acc hp hf hst
    have : pos = l.length := by omega
    subst this
    exact hfin st acc hst
  | succ f ih =>
    intro pos st acc hp hf hst
    by_cases hlt : pos < l.length
    · have hd := decodeL_drop ⟨l.toArray⟩ pos
      have hdt : (⟨l.toArray⟩ : ByteArray).data.toList = l := rfl
      rw [hdt] at hd
      have hne : l.drop pos ≠ [] := by
        intro h0
        have := congrArg List.length h0
        rw [List.length_drop] at this
        simp at this; omega
      unfold spansFromP
      rw [hsz, if_pos hlt, ← hd]
      have hcons : l.drop pos = l.getD pos 0 :: l.drop (pos + 1) := by
        rw [List.drop_eq_getElem_cons hlt]; simp [List.getD, hlt]
      by_cases hr : (decodeL (l.drop pos)).1 = 32 ∨ (decodeL (l.drop pos)).1 = 10
      · obtain ⟨hk, hb⟩ := blank_rune _ hne hr
        have hb' : l.getD pos 0 = 32 ∨ l.getD pos 0 = 10 := by rw [getD_dropU] at hb; simpa using hb
        have hbl : isBl (l.getD pos 0) = true := (isBl_iff _).2 hb'
        rw [if_pos (decide_eq_true (by omega)), hk]
        cases st with
        | none =>
          show pcs l (closeSpans _ (spansFromP _ _ f (pos + 1) none acc)) = _
          rw [ih (pos + 1) none acc hlt (by omega) (fun a h => by cases h)]
          simp only [Option.getD_none]
          rw [hcons, words_blank hbl]
        | some a =>
          obtain ⟨h1, h2⟩ := hst a rfl
          show pcs l (closeSpans _ (spansFromP _ _ f (pos + 1) none (acc ++ [(a, pos)]))) = _
          rw [ih (pos + 1) none _ hlt (by omega) (fun a h => by cases h)]
          simp only [Option.getD_none, Option.getD_some]
          have hsplit : l.drop a = (l.take pos).drop a ++ l.getD pos 0 :: l.drop (pos + 1) := by
            rw [← hcons]
            have e : l = l.take pos ++ l.drop pos := (List.take_append_drop pos l).symm
            have : l.drop a = (l.take pos ++ l.drop pos).drop a := by rw [← e]
            rw [this, List.drop_append_of_le_length (by rw [List.length_take]; omega)]
          have hno : ∀ x ∈ (l.take pos).drop a, isBl x = false := fun x hx => by
            obtain ⟨k, hk⟩ := List.getElem?_of_mem hx
            rw [List.getElem?_drop, List.getElem?_take] at hk
            split at hk
            · have := h2 (a + k) (by omega) (by omega)
              simp only [List.getD, hk, Option.getD_some] at this
              exact isBl_not this
            · cases hk
          have hne2 : (l.take pos).drop a ≠ [] := by
            intro h0
            have := congrArg List.length h0
            rw [List.length_drop, List.length_take] at this
            simp at this; omega
          rw [hsplit, words_sep hno hne2 hbl]
          simp [pcs]
      · obtain ⟨k1, k2, k3⟩ := other_rune _ hne hr
        rw [List.length_drop] at k2
        have k3' : ∀ j, pos ≤ j → j < pos + (decodeL (l.drop pos)).2 → ¬ (l.getD j 0 = 32 ∨ l.getD j 0 = 10) := fun j h1 h2 => by
          have := k3 (j - pos) (by omega)
          rw [getD_dropU, show pos + (j - pos) = j by omega] at this
          exact this
        rw [if_neg (fun hd => hr (by have := of_decide_eq_true hd; omega))]
        cases st with
        | none =>
          show pcs l (closeSpans _ (spansFromP _ _ f (pos + (decodeL (l.drop pos)).2) (some pos) acc)) = _
          rw [ih _ (some pos) acc (by omega) (by omega) (fun a h => by injection h with h; subst h; exact ⟨by omega, k3'⟩)]
          rfl
        | some a =>
          obtain ⟨h1, h2⟩ := hst a rfl
          show pcs l (closeSpans _ (spansFromP _ _ f (pos + (decodeL (l.drop pos)).2) (some a) acc)) = _
          rw [ih _ (some a) acc (by omega) (by omega) (fun a' h => by
            injection h with h; subst h
            refine ⟨by omega, fun j g1 g2 => ?_⟩
            by_cases e : j < pos
            · exact h2 j g1 e
            · exact k3' j (by omega) g2)]
          rfl
    · have : pos = l.length := by omega
      subst this
      rw [spansFromP_end _ _ _ _ _ _ (by rw [hsz]; omega)]
      exact hfin st acc hst
theorem fields_words (s : List UInt8) : (goFieldsP (fun r => decide ((r : Int) = 32 ∨ (r : Int) = 10)) ⟨s.toArray⟩).map (fun x => x.data.toList) = wordsB isBl s := by
  have h := spans_words s s.length 0 none [] (Nat.zero_le _) (Nat.le_refl _) (fun a h => by cases h)
  simp only [Option.getD_none, List.drop_zero] at h
  have e : pcs s [] ++ wordsB isBl s = wordsB isBl s := rfl
  rw [e] at h
  rw [← h]
  unfold goFieldsP spansOfP pcs
  rw [List.map_map]
  refine List.map_congr_left fun x _ => ?_
  show ((⟨s.toArray⟩ : ByteArray).extract x.1 x.2).data.toList = _
  simp [List.extract, List.drop_take]
end Pv
end Go.Proofs.YtknidebojogodaaGreatDoor
/- LAW 13: the library's functions on texts, as pure calls. -/
set_option linter.unusedSimpArgs false
set_option linter.unusedVariables false
namespace Go.Proofs.YtknidebojogodaaGreatDoor
namespace Pv
open Go.RowKit
theorem args_nil (X : Cx) (γ : Gh) (w : World) (vals : List Value) (h : RepL X γ w [] vals) : vals = [] := h.nil_inv
theorem args_str (s : List UInt8) (X : Cx) (γ : Gh) (w : World) (vals : List Value) (h : RepL X γ w [.str s] vals) : vals = [strV s] := by
  obtain ⟨v, us, rfl, hv, hus⟩ := h.cons_inv
  rw [hv.str_inv, hus.nil_inv]; rfl
theorem args_str2 (s t : List UInt8) (X : Cx) (γ : Gh) (w : World) (vals : List Value) (h : RepL X γ w [.str s, .str t] vals) : vals = [strV s, strV t] := by
  obtain ⟨v, us, rfl, hv, hus⟩ := h.cons_inv
  rw [hv.str_inv, args_str t X γ w us hus]; rfl
theorem args_int (k : IntKind) (n : Int) (X : Cx) (γ : Gh) (w : World) (vals : List Value) (h : RepL X γ w [.int k n] vals) : vals = [.int k n] := by
  obtain ⟨v, us, rfl, hv, hus⟩ := h.cons_inv
  rw [hv.int_inv, hus.nil_inv]
theorem rep_raw (X : Cx) (γ : Gh) (w : World) : Rep X γ w (.raw .nilIface) .nilIface := .raw _ rfl
theorem rep_tup1 (n : Int) (X : Cx) (γ : Gh) (w : World) : Rep X γ w (.tup [.int .i64 n, .raw .nilIface]) (.tuple #[.int .i64 n, .nilIface]) := by
  refine .tup _ [.int .i64 n, .nilIface] rfl fun k c u hc hu => ?_
  match k, hc, hu with
  | 0, hc, hu => injection hc with hc; injection hu with hu; subst hc; subst hu; exact .int _ _
  | 1, hc, hu => injection hc with hc; injection hu with hu; subst hc; subst hu; exact .raw _ rfl
  | k + 2, hc, hu => simp at hc
theorem call26 (s x : List UInt8) (h : s.length + x.length ≤ 140737488355328) : PureCall Tryz.prog 26 [.pt 0 0 0, .str x] [.bld 57 5 s] ⟨.tup [.int .i64 x.length, .raw .nilIface], [.bld 57 5 (s ++ x)], []⟩ :=
  pure_bld ⟨_, Tryz.func26, rfl, rfl⟩ (args_str x) (rep_tup1 x.length) fun w b p v hp hH =>
    (held_string Sh.lays166 Sh.bX_166 hp hH x h).mono fun ev w' ⟨he, v', h1, h2, h3⟩ => ⟨he, self b, v', .inr rfl, h1, h2, h3⟩
theorem call29 (s : List UInt8) (h : s ≠ []) : PureCall Tryz.prog 29 [.pt 0 0 0] [.bld 57 5 s] ⟨.str s, [.bld 57 5 s], []⟩ :=
  pure_bld ⟨_, Tryz.func29, rfl, rfl⟩ args_nil (fun _ _ _ => .str s) fun w b p v hp hH =>
    (held_text Sh.lays169 Sh.bX_169 hH h).mono fun ev w' ⟨he, h1, h2⟩ => ⟨he, p, v, hp, h1, h2, fun g hg => .inl hg⟩
theorem call28 (s : List UInt8) (c : UInt8) (h : s.length + 1 ≤ 140737488355328) : PureCall Tryz.prog 28 [.pt 0 0 0, .int .u8 c.toNat] [.bld 57 5 s] ⟨.raw .nilIface, [.bld 57 5 (s ++ [c])], []⟩ :=
  pure_bld ⟨_, Tryz.func28, rfl, rfl⟩ (args_int .u8 c.toNat) rep_raw fun w b p v hp hH =>
    (held_byte Sh.lays167 Sh.bX_167 hp hH c h).mono fun ev w' ⟨he, v', h1, h2, h3⟩ => ⟨he, self b, v', .inr rfl, h1, h2, h3⟩
theorem keeps_grow (w : World) (k : Nat) (os : Array Obj) : Keeps (fun _ => False) w (Sort.grow (w.drewN k) os) :=
  ⟨rfl, rfl, rfl, by simp [Sort.grow], fun b hb _ => by simp [Sort.grow, Array.getElem?_append, hb]⟩
theorem keeps_drewN (w : World) (k : Nat) : Keeps (fun _ => False) w (w.drewN k) := ⟨rfl, rfl, rfl, Nat.le_refl _, fun b hb _ => rfl⟩
theorem pow_tab {w : World} (hg : ∀ b p, Pv.glob b = some p → ∃ o, w.heap[b]? = some o ∧ p o) : Lib.TabIs Tryz.prog w "internal/strconv.uint64pow10" .u64 Lib.pow10Tab := by
  obtain ⟨o, ho, T, fz, rfl⟩ := hg 2 isPow10 rfl
  unfold Lib.TabIs World.var?
  rw [show Tryz.prog.globalNamed "internal/strconv.uint64pow10" = some 2 from by kernel_rfl]
  simp [ho]
theorem some_int {w : World} (hg : ∀ b p, Pv.glob b = some p → ∃ o, w.heap[b]? = some o ∧ p o) : ∃ m, w.cell? ⟨1, 0, none⟩ = some (.int .i64 m) := by
  obtain ⟨o, ho, cs, T, fz, m, rfl, hm⟩ := hg 1 someInt rfl
  exact ⟨m, by rw [Lib.cell_of_heap ho]; exact hm⟩
theorem call27 (n : Int) (h0 : -9223372036854775808 ≤ n) (h1 : n ≤ 9223372036854775807) : PureCall Tryz.prog 27 [.int .i64 n] [] ⟨.str (Lib.itoa n), [], []⟩ :=
  pure_still ⟨_, Tryz.func27, rfl, rfl⟩ (args_int .i64 n) (fun _ _ _ => .str _) fun w hg =>
    (Sh.strconv_Itoa n h0 h1 w (pow_tab hg)).mono fun ev w' ⟨he, k, os, hw⟩ => ⟨he, by rw [hw]; exact keeps_grow w k os⟩
theorem splitB_C (s : List UInt8) (c : UInt8) : (Lib.splitB ⟨#[c]⟩ 0 (Lib.countB ⟨s.toArray⟩ ⟨#[c]⟩) ⟨s.toArray⟩).map Value.string = (splitC c s).map strV := by
  have h := Lib.splitB_data ⟨#[c]⟩ 0 (Lib.countB ⟨s.toArray⟩ ⟨#[c]⟩) ⟨s.toArray⟩
  have h2 : Lib.splitK [c] 0 (Lib.count s [c]) s = splitC c s := splitK_C c s
  have h3 : (Lib.splitB ⟨#[c]⟩ 0 (Lib.countB ⟨s.toArray⟩ ⟨#[c]⟩) ⟨s.toArray⟩).map (·.data.toList) = splitC c s := h.trans h2
  rw [← h3, List.map_map]
  exact List.map_congr_left fun x _ => by
    show Value.string x = Value.string ⟨x.data.toList.toArray⟩
    simp
theorem call16 (s : List UInt8) (c : UInt8) (h : s.length < 4294967281) : PureCall Tryz.prog 16 [.str s, .str [c]] [] ⟨.os 1000000000, [], [.row 0 9 1 (splitC c s).length (fl eStr (splitC c s))]⟩ := by
  have h1 : 1 ≤ (⟨#[c]⟩ : ByteArray).size := Nat.le_refl 1
  have hN : Lib.countB ⟨s.toArray⟩ ⟨#[c]⟩ + 1 = (splitC c s).length := by
    rw [← Lib.splitB_all ⟨#[c]⟩ h1 0 _ ⟨s.toArray⟩ rfl, ← List.length_map (f := Value.string), splitB_C, List.length_map]
  refine pure_new2 (vs := (splitC c s).map strV) ⟨_, Tryz.func16, rfl, rfl⟩ (args_str2 s [c]) (fun X γ w => strs_rows (splitC c s)) fun w hg => ?_
  obtain ⟨m, hm⟩ := some_int hg
  refine (Sh.strings_Split ⟨s.toArray⟩ ⟨#[c]⟩ m w (by show s.toArray.size < _; rw [List.size_toArray]; exact h) hm h1).mono ?_
  rintro ev w' ⟨he, hw⟩
  rw [splitB_C] at hw
  rw [hN] at he
  have hle := (splitC_len c s).1
  have hnew : w'.heap[w.heap.size]? = some (.cells ((splitC c s).map strV).toArray 9 (0, 0)) := by
    rw [hw]
    show (w.heap.push _)[w.heap.size]? = _
    simp
  refine ⟨_, he, ⟨by simp, .inr ⟨w.heap.size, _, _, rfl, Nat.le_refl _, hnew, Nat.le_refl _, by unfold maxLen; omega, by simp, by simp only [Nat.mul_one]; exact List.take_of_length_le (by simp)⟩⟩, by rw [hw]; exact Keeps.alloc _ _ _⟩
open Go.Shelf Go.Lib in
theorem is_blank (w : World) : PredAt Tryz.prog 32 #[] encR (fun r => decide ((r : Int) = 32 ∨ (r : Int) = 10)) w := fun W r _ => by
  unfold FnGives
  go_enter Tryz.func32, Tryz.ntmps32
  go_wp2
  all_goals (go_ret)
  · rename_i h
    exact ⟨by simp [h], 0, rfl⟩
  · rename_i h
    refine ⟨?_, 0, rfl⟩
    have e : ((r : Int) == 32 || (r : Int) == 10) = decide ((r : Int) = 32 ∨ (r : Int) = 10) := by
      rw [Bool.decide_or]; rfl
    rw [← e]
    rfl
open Go.Shelf Go.Lib in
theorem call31 (s : List UInt8) (h : s.length ≤ 65536) : PureCall Tryz.prog 31 [.str s, .fn (.func 32) [] []] [] ⟨.os 1000000000, [], [.row 0 9 1 (wordsB isBl s).length (fl eStr (wordsB isBl s))]⟩ := by
  have hw : (Lib.goFieldsP (fun r => decide ((r : Int) = 32 ∨ (r : Int) = 10)) ⟨s.toArray⟩).map Value.string = (wordsB isBl s).map strV := by
    rw [← fields_words s, List.map_map]
    exact List.map_congr_left fun x _ => by
      show Value.string x = Value.string ⟨x.data.toList.toArray⟩
      simp
  have hl : (Lib.goFieldsP (fun r => decide ((r : Int) = 32 ∨ (r : Int) = 10)) ⟨s.toArray⟩).length = (wordsB isBl s).length := by
    have := congrArg List.length hw
    simpa using this
  refine pure_new2 (us := [strV s, .func (.func 32) #[] #[]]) (vs := (wordsB isBl s).map strV) ⟨_, Tryz.func31, rfl, rfl⟩ (fun X γ w vals h => ?_) (fun X γ w => strs_rows (wordsB isBl s)) fun w hg => ?_
  · obtain ⟨v, us, rfl, hv, hus⟩ := h.cons_inv
    obtain ⟨v2, us2, rfl, hv2, hus2⟩ := hus.cons_inv
    rw [hv.str_inv, hus2.nil_inv]
    cases hv2 with
    | fn _ _ _ vs us hvl hul h h' =>
      have e1 : vs = [] := List.eq_nil_of_length_eq_zero hvl
      have e2 : us = [] := List.eq_nil_of_length_eq_zero hul
      subst e1 e2
      rfl
  · refine (Sh.strings_FieldsFunc 32 #[] (enters_of Tryz.func32 (by kernel_rfl) rfl) _ ⟨s.toArray⟩ w (by show s.toArray.size ≤ _; rw [List.size_toArray]; omega) (is_blank w)).mono ?_
    rintro ev w' ⟨A, he, _, ho, hb⟩
    rw [hl, hw] at ho
    rw [hl] at he
    exact ⟨_, he, ho, ⟨hb.os, hb.tape, hb.output, hb.size, fun b hlt _ => hb.block b hlt⟩⟩
end Pv
end Go.Proofs.YtknidebojogodaaGreatDoor
/- LAW 13, PLAIN: words of texts: how long they are together; joined by single blanks they are the same. No program in sight. -/
set_option linter.unusedSimpArgs false
set_option linter.unusedVariables false
namespace Go.Proofs.YtknidebojogodaaGreatDoor
namespace Pv
def lensL (l : List (List UInt8)) : Nat := (l.map List.length).sum
theorem splitP_ne (p : UInt8 → Bool) (l : List UInt8) : splitP p l ≠ [] := by
  cases l with
  | nil => simp [splitP]
  | cons x xs =>
    unfold splitP
    split
    · simp
    · split <;> simp
theorem splitP_sum (p : UInt8 → Bool) : ∀ l : List UInt8, lensL (splitP p l) + l.countP p = l.length
  | [] => by simp [splitP, lensL]
  | x :: xs => by
    have ih := splitP_sum p xs
    have hne := splitP_ne p xs
    unfold splitP
    cases hx : p x with
    | true =>
      rw [if_pos rfl, List.countP_cons_of_pos hx]
      simp only [lensL, List.map_cons, List.length_nil, List.sum_cons, List.length_cons] at ih ⊢
      omega
    | false =>
      rw [if_neg (by simp), List.countP_cons_of_neg (by simp [hx])]
      cases hs : splitP p xs with
      | nil => exact absurd hs hne
      | cons h t =>
        rw [hs] at ih
        simp only [lensL, List.map_cons, List.sum_cons, List.length_cons] at ih ⊢
        omega
theorem filter_sum : ∀ l : List (List UInt8), lensL (l.filter fun x => !x.isEmpty) = lensL l
  | [] => rfl
  | x :: l => by
    have ih := filter_sum l
    cases x with
    | nil =>
      rw [List.filter_cons_of_neg (by simp), ih]
      simp [lensL]
    | cons b r =>
      rw [List.filter_cons_of_pos (by simp)]
      simp only [lensL, List.map_cons, List.sum_cons] at ih ⊢
      omega
theorem countP_bl : ∀ l : List UInt8, l.countP isBl = l.count 32 + l.count 10
  | [] => rfl
  | x :: l => by
    have ih := countP_bl l
    by_cases h1 : x = 32
    · subst h1
      rw [List.countP_cons_of_pos (by rfl), List.count_cons_self, List.count_cons_of_ne (by decide), ih]; omega
    · by_cases h2 : x = 10
      · subst h2
        rw [List.countP_cons_of_pos (by rfl), List.count_cons_self, List.count_cons_of_ne (by decide), ih]; omega
      · rw [List.countP_cons_of_neg (by rw [isBl_not (fun h => h.elim h1 h2)]; decide), List.count_cons_of_ne h1, List.count_cons_of_ne h2, ih]
theorem words_sum (l : List UInt8) : lensL (wordsB isBl l) + l.count 32 + l.count 10 = l.length := by
  have h1 := splitP_sum isBl l
  have h2 := filter_sum (splitP isBl l)
  have h3 := countP_bl l
  unfold wordsB
  omega
theorem splitP_mem (p : UInt8 → Bool) : ∀ (l : List UInt8) (x : List UInt8), x ∈ splitP p l → ∀ b ∈ x, p b = false
  | [], x, h, b, hb => by
    simp [splitP] at h; subst h; simp at hb
  | y :: ys, x, h, b, hb => by
    have ih := splitP_mem p ys
    unfold splitP at h
    cases hy : p y with
    | true =>
      rw [hy, if_pos rfl] at h
      rcases List.mem_cons.1 h with rfl | h
      · simp at hb
      · exact ih x h b hb
    | false =>
      rw [hy, if_neg (by simp)] at h
      cases hs : splitP p ys with
      | nil => exact absurd hs (splitP_ne p ys)
      | cons z t =>
        rw [hs] at h ih
        dsimp only at h
        rcases List.mem_cons.1 h with rfl | h
        · rcases List.mem_cons.1 hb with rfl | hb
          · exact hy
          · exact ih z (by simp) b hb
        · exact ih x (by simp [h]) b hb
def WordOK (p : UInt8 → Bool) (x : List UInt8) : Prop := x ≠ [] ∧ ∀ b ∈ x, p b = false
theorem words_ok (p : UInt8 → Bool) (l : List UInt8) : ∀ x ∈ wordsB p l, WordOK p x := fun x hx => by
  unfold wordsB at hx
  obtain ⟨h1, h2⟩ := List.mem_filter.1 hx
  exact ⟨by rintro rfl; simp at h2, splitP_mem p l x h1⟩
theorem words_app (p : UInt8 → Bool) (u : List UInt8) (c : UInt8) (hc : p c = true) (t : List UInt8) : wordsB p (u ++ c :: t) = wordsB p u ++ wordsB p t := by
  induction u with
  | nil => simp [words_blank hc, words_nil]
  | cons x u ih =>
    cases hx : p x with
    | true => rw [List.cons_append, words_blank hx, words_blank hx, ih]
    | false =>
      -- the part at hand
      unfold wordsB at ih ⊢
      rw [List.cons_append]
      have key : ∃ h r, splitP p u = h :: r ∧ splitP p (u ++ c :: t) = h :: (r ++ splitP p t) := by
        clear ih
        induction u with
        | nil => exact ⟨[], [], rfl, by simp [splitP, hc]⟩
        | cons y u ih2 =>
          obtain ⟨h, r, e1, e2⟩ := ih2
          cases hy : p y with
          | true =>
            refine ⟨[], splitP p u, by simp [splitP, hy], ?_⟩
            rw [List.cons_append]
            simp only [splitP, hy, if_true]
            rw [e2, e1]; rfl
          | false =>
            refine ⟨y :: h, r, by simp [splitP, hy, e1], ?_⟩
            rw [List.cons_append]
            simp [splitP, hy, e2]
      obtain ⟨h, r, e1, e2⟩ := key
      have hs : ∀ v h r, splitP p v = h :: r → splitP p (x :: v) = (x :: h) :: r := fun v h r e => by simp [splitP, hx, e]
      rw [hs _ _ _ e1, hs _ _ _ e2]
      simp
theorem words_one {p : UInt8 → Bool} {x : List UInt8} (h : WordOK p x) : wordsB p x = [x] := words_none h.2 h.1
theorem join_cons (x : List UInt8) (y : List UInt8) (r : List (List UInt8)) : [32].intercalate (x :: y :: r) = x ++ 32 :: [32].intercalate (y :: r) := by
  simp [List.intercalate, List.intersperse]
theorem words_join : ∀ {w : List (List UInt8)}, (∀ x ∈ w, WordOK isBl x) → wordsB isBl ([32].intercalate w) = w
  | [], _ => rfl
  | [x], h => by
    have : [32].intercalate [x] = x := by simp [List.intercalate]
    rw [this]
    exact words_one (h x (by simp))
  | x :: y :: r, h => by
    rw [join_cons, words_app isBl x 32 rfl, words_one (h x (by simp)), words_join (w := y :: r) (fun z hz => h z (by simp [hz]))]
    rfl
theorem join_len : ∀ (w : List (List UInt8)), ([32].intercalate w).length ≤ lensL w + w.length
  | [] => by simp [List.intercalate]
  | [x] => by simp [List.intercalate, lensL]
  | x :: y :: r => by
    have ih := join_len (y :: r)
    rw [join_cons]
    simp only [lensL, List.map_cons, List.sum_cons, List.length_append, List.length_cons] at ih ⊢
    omega
end Pv
end Go.Proofs.YtknidebojogodaaGreatDoor
/- LAW 13, PLAIN: numbers of 1 to 10 digits: by strings.Trim and strconv.Atoi, and digit by digit. No program in sight. -/
set_option linter.unusedSimpArgs false
set_option linter.unusedVariables false
namespace Go.Proofs.YtknidebojogodaaGreatDoor
namespace Pv
def digs : Int → List UInt8 → Option Int
  | a, [] => some a
  | a, c :: cs => if c.toNat < 48 ∨ 57 < c.toNat then none else digs (10 * a + ((c.toNat : Int) - 48)) cs
def numF (s : List UInt8) : Option Int := if s.length < 1 ∨ 10 < s.length then none else digs 0 s
def digT : List UInt8 := [48, 49, 50, 51, 52, 53, 54, 55, 56, 57]
theorem digT_iff (b : UInt8) : digT.contains b = true ↔ 48 ≤ b.toNat ∧ b.toNat ≤ 57 := by
  constructor
  · intro h
    have h2 : b ∈ digT := by simpa using h
    unfold digT at h2
    simp only [List.mem_cons, List.not_mem_nil, or_false] at h2
    rcases h2 with rfl | rfl | rfl | rfl | rfl | rfl | rfl | rfl | rfl | rfl <;> decide
  · intro ⟨h1, h2⟩
    have e : b = UInt8.ofNat b.toNat := by simp
    rw [e]
    generalize b.toNat = n at h1 h2
    have : n = 48 ∨ n = 49 ∨ n = 50 ∨ n = 51 ∨ n = 52 ∨ n = 53 ∨ n = 54 ∨ n = 55 ∨ n = 56 ∨ n = 57 := by omega
    rcases this with rfl | rfl | rfl | rfl | rfl | rfl | rfl | rfl | rfl | rfl <;> decide
theorem dropWhile_nil {α : Type} (p : α → Bool) : ∀ l : List α, l.dropWhile p = [] ↔ ∀ x ∈ l, p x = true
  | [] => by simp
  | x :: l => by
    have ih := dropWhile_nil p l
    cases h : p x with
    | true => rw [List.dropWhile_cons_of_pos h, ih]; simp [h]
    | false => rw [List.dropWhile_cons_of_neg (by simp [h])]; simp [h]
theorem dropWhile_head {α : Type} (p : α → Bool) : ∀ (l : List α) (y : α) (r : List α), l.dropWhile p = y :: r → p y = false
  | [], y, r, h => by simp at h
  | x :: l, y, r, h => by
    cases hp : p x with
    | true => rw [List.dropWhile_cons_of_pos hp] at h; exact dropWhile_head p l y r h
    | false => rw [List.dropWhile_cons_of_neg (by simp [hp])] at h; injection h with h1 _; rw [← h1]; exact hp
theorem trim_nil (s : List UInt8) : Lib.trimS s digT = [] ↔ ∀ b ∈ s, 48 ≤ b.toNat ∧ b.toNat ≤ 57 := by
  have key : Lib.trimS s digT = [] ↔ ∀ b ∈ s, digT.contains b = true := by
    unfold Lib.trimS Lib.trimLeftS Lib.trimRightS
    rw [dropWhile_nil]
    cases hd : s.reverse.dropWhile (digT.contains ·) with
    | nil =>
      have := (dropWhile_nil _ _).1 hd
      simp only [List.mem_reverse] at this
      simp only [List.reverse_nil, List.not_mem_nil, false_implies, implies_true, true_iff]
      exact this
    | cons y r =>
      have hy := dropWhile_head _ _ _ _ hd
      constructor
      · intro h
        have := h y (by simp)
        rw [hy] at this; cases this
      · intro h
        have hm : y ∈ s.reverse.dropWhile (digT.contains ·) := by rw [hd]; simp
        have := h y (by
          have := (List.dropWhile_sublist _).subset hm
          simpa using this)
        rw [hy] at this; cases this
  rw [key]
  exact ⟨fun h b hb => (digT_iff b).1 (h b hb), fun h b hb => (digT_iff b).2 (h b hb)⟩
theorem digs_none : ∀ (s : List UInt8) (a : Int), digs a s = none ↔ ¬ ∀ b ∈ s, 48 ≤ b.toNat ∧ b.toNat ≤ 57
  | [], a => by simp [digs]
  | c :: cs, a => by
    have ih := digs_none cs
    unfold digs
    split
    · rename_i h
      simp only [List.mem_cons, forall_eq_or_imp, true_iff]
      intro hh; omega
    · rename_i h
      rw [ih]
      simp only [List.mem_cons, forall_eq_or_imp]
      constructor
      · intro h1 h2; exact h1 h2.2
      · intro h1 h2; exact h1 ⟨by omega, h2⟩
theorem digs_dec : ∀ (s : List UInt8) (a : Nat) (n : Int), digs a s = some n → ∃ m : Nat, n = m ∧ Lib.decFrom a s = some m ∧ m < (a + 1) * 10 ^ s.length
  | [], a, n, h => by
    simp only [digs, Option.some.injEq] at h
    exact ⟨a, h.symm, rfl, by simp⟩
  | c :: cs, a, n, h => by
    unfold digs at h
    split at h
    · cases h
    · rename_i hc
      have e : 10 * (a : Int) + ((c.toNat : Int) - 48) = ((a * 10 + (c.toNat - 48) : Nat) : Int) := by omega
      rw [e] at h
      obtain ⟨m, h1, h2, h3⟩ := digs_dec cs _ n h
      refine ⟨m, h1, ?_, ?_⟩
      · unfold Lib.decFrom Lib.digitVal
        rw [if_pos (by omega)]
        exact h2
      · rw [List.length_cons, Nat.pow_succ]
        have h4 : a * 10 + (c.toNat - 48) + 1 ≤ (a + 1) * 10 := by omega
        have h5 := Nat.mul_le_mul_right (10 ^ cs.length) h4
        have h6 : (a + 1) * 10 * 10 ^ cs.length = (a + 1) * (10 ^ cs.length * 10) := by rw [Nat.mul_assoc, Nat.mul_comm 10]
        omega
theorem num_atoi {s : List UInt8} {n : Int} (h : numF s = some n) : Lib.atoi s = some n ∧ 0 ≤ n ∧ n < 10000000000 := by
  unfold numF at h
  split at h
  · cases h
  rename_i hl
  obtain ⟨m, h1, h2, h3⟩ := digs_dec s 0 n h
  have hall : ∀ b ∈ s, 48 ≤ b.toNat ∧ b.toNat ≤ 57 := Classical.byContradiction fun hc => by
    rw [(digs_none s 0).2 hc] at h; cases h
  cases s with
  | nil => simp at hl
  | cons b r =>
    have hb := hall b (by simp)
    have hp : 10 ^ (b :: r).length ≤ 10 ^ 10 := Nat.pow_le_pow_right (by decide) (by omega)
    refine ⟨?_, by omega, ?_⟩
    · show (if b == 45 then (Lib.decNat r).map (fun (m : Nat) => -(m : Int)) else if b == 43 then (Lib.decNat r).map (fun (m : Nat) => (m : Int)) else (Lib.decNat (b :: r)).map fun (m : Nat) => (m : Int)) = some n
      rw [if_neg (by intro e; have := eq_of_beq e; subst this; revert hb; decide), if_neg (by intro e; have := eq_of_beq e; subst this; revert hb; decide)]
      unfold Lib.decNat
      rw [show (b :: r).isEmpty = false from rfl, if_neg (by decide)]
      have h2' : Lib.decFrom 0 (b :: r) = some m := h2
      rw [h2', h1]; rfl
    · have e10 : (10 : Nat) ^ 10 = 10000000000 := by decide
      omega
theorem num_none (s : List UInt8) : numF s = none ↔ s.length = 0 ∨ 10 < s.length ∨ Lib.trimS s digT ≠ [] := by
  unfold numF
  by_cases h : s.length < 1 ∨ 10 < s.length
  · rw [if_pos h]
    simp only [true_iff]
    rcases h with h | h
    · exact .inl (by omega)
    · exact .inr (.inl h)
  · rw [if_neg h, digs_none]
    rw [ne_eq, trim_nil]
    constructor
    · exact fun h2 => .inr (.inr h2)
    · rintro (h2 | h2 | h2)
      · omega
      · omega
      · exact h2
end Pv
end Go.Proofs.YtknidebojogodaaGreatDoor
/- LAW 13: strings.Trim, strconv.Atoi, strings.Repeat as pure calls. -/
set_option linter.unusedSimpArgs false
set_option linter.unusedVariables false
namespace Go.Proofs.YtknidebojogodaaGreatDoor
namespace Pv
open Go.RowKit
theorem keeps_below {w w' : World} (hb : Below w.heap.size w w') : Keeps (fun _ => False) w w' :=
  ⟨hb.os, hb.tape, hb.output, hb.size, fun b hlt _ => hb.block b hlt⟩
theorem keeps_bytes (w : World) (e : TypeId) (t : ByteArray) : Keeps (fun _ => False) w (Lib.bytesWorld w e t) :=
  ⟨rfl, rfl, rfl, by simp [Lib.bytesWorld, World.freeze, World.alloc], fun b hb _ => by
    have hne : ¬ w.heap.size = b := Nat.ne_of_gt hb
    have hd : w.drew.heap = w.heap := rfl
    simp only [Lib.bytesWorld, World.freeze, World.alloc]
    rw [if_neg (by decide)]
    show (Array.modify _ _ _)[b]? = _
    rw [Array.getElem?_modify, if_neg hne]
    show (w.heap.push _)[b]? = w.heap[b]?
    rw [Array.getElem?_push, if_neg (Nat.ne_of_lt hb)]⟩
theorem call71 (s : List UInt8) (h : s.length ≤ 9223372036854775807) : PureCall Tryz.prog 71 [.str s, .str digT] [] ⟨.str (Lib.trimS s digT), [], []⟩ :=
  pure_still ⟨_, Tryz.func71, rfl, rfl⟩ (args_str2 s digT) (fun _ _ _ => .str _) fun w hg =>
    (Any.strings_Trim_laid Sh.lays160 (by kernel_rfl) ⟨s.toArray⟩ ⟨digT.toArray⟩ w (by show s.toArray.size ≤ _; rw [List.size_toArray]; exact h) (by decide) (ascii_of_all (by decide))).mono fun ev w' ⟨he, hb⟩ => ⟨he, keeps_below hb⟩
theorem call72 (s : List UInt8) (n : Int) (h : numF s = some n) : PureCall Tryz.prog 72 [.str s] [] ⟨.tup [.int .i64 n, .raw .nilIface], [], []⟩ :=
  pure_still ⟨_, Tryz.func72, rfl, rfl⟩ (args_str s) (rep_tup1 n) fun w hg =>
    (Sh.strconv_Atoi ⟨s.toArray⟩ n (by
      show s.toArray.size ≤ 18
      rw [List.size_toArray]
      unfold numF at h
      split at h
      · cases h
      · omega) (num_atoi h).1 w).mono fun ev w' ⟨he, t, hw⟩ => ⟨he, by rw [hw]; exact keeps_bytes w 5 t⟩
end Pv
end Go.Proofs.YtknidebojogodaaGreatDoor
/- STANDING PIECES OF PROOFS: statements whose premise is shown where they are used, by a standing list of steps. Nothing is claimed here. -/
set_option linter.unusedSimpArgs false
set_option linter.unusedVariables false
namespace Go.Proofs.YtknidebojogodaaGreatDoor
namespace Pv
theorem g0 {P : Prop} (h : P := by
  (try conv => whnf)
  (repeat' (first | exact True.intro | exact fun _ h => h | refine inR64_of ?_ ?_ | apply And.intro | refine maxLen_ge ?_)) <;> (first | omega | decide | (dsimp only; omega) | (dsimp only [List.length_cons, List.length_nil]; omega) | (intro hg; rw [hg]; rfl) | (intro hg hh; rw [hg, hh]; rfl) | (intro hg; simp [-List.getD_eq_getElem?_getD, -Int.default_eq_zero] at hg; first | omega | (refine inR64_of ?_ ?_ <;> omega) | (constructor <;> omega)) | (simp [-List.getD_eq_getElem?_getD, -Int.default_eq_zero]; done))) : P := h
theorem g1 {P : Prop} (h : P := by
  (repeat' (first | exact True.intro | exact fun _ h => h | refine inR64_of ?_ ?_ | apply And.intro | refine maxLen_ge ?_)) <;> (first | omega | assumption | (intro _; assumption) | (intro _; refine ⟨?_, ?_⟩ <;> first | omega | decide | assumption) | decide | (dsimp only; omega) | (dsimp only [List.length_cons, List.length_nil]; omega) | (intro _; omega) | (intro hg; simp [-List.getD_eq_getElem?_getD, -Int.default_eq_zero] at hg; first | omega | (refine inR64_of ?_ ?_ <;> omega) | (constructor <;> omega)) | (simp [-List.getD_eq_getElem?_getD, -Int.default_eq_zero]; done))) : P := h
theorem ent {P : Prop} (h : P := by
  repeat' (first | exact True.intro | refine leF_cons rfl ?_ ?_ | refine leS_cons rfl ?_ ?_ | (show PLe _ _ _ _; conv => whnf) | (show SLe _ _ _ _; conv => whnf) | (show PLeL _ _ _ _; conv => whnf) | apply And.intro | rfl | exact Nat.le_refl _ | exact fun _ _ => rfl | exact rowEq0 _ _ | exact fun _ _ => ⟨rfl, rfl⟩ | assumption | omega | (dsimp only; omega) | (simp only [List.length_append, List.length_cons, List.length_nil]; done) | (simp only [List.length_append, List.length_cons, List.length_nil]; omega))) : P := h
theorem ret {P : Prop} (h : P := by
  refine ⟨?_, [], ?_⟩
  · exact g0
  conv => whnf
  refine ⟨rfl, ?_, trivial, trivial⟩
  exact ent) : P := h
theorem retB {P : Prop} (h : P := by
  refine ⟨?_, [], ?_⟩
  · exact g0
  conv => whnf
  refine ⟨rfl, ?_, ?_, trivial⟩ <;> exact ent) : P := h
theorem bp : (∀ {a b c : Bool}, (bif a then b else c) = true ↔ (a = true ∧ b = true) ∨ (a = false ∧ c = true)) ∧ (∀ {a b c : Bool}, (bif a then b else c) = false ↔ (a = true ∧ b = false) ∨ (a = false ∧ c = false))
    ∧ (∀ {p : Prop} [Decidable p], (decide p = true) = p) ∧ (∀ {p : Prop} [Decidable p], (decide p = false) = ¬p) ∧ (∀ {b : Bool}, ((!b) = true) = (b = false)) ∧ (∀ {b : Bool}, ((!b) = false) = (b = true))
    ∧ (∀ {a b : Bool}, ((a && b) = true) = (a = true ∧ b = true)) ∧ (∀ {a b : Bool}, ((a || b) = true) = (a = true ∨ b = true)) ∧ (∀ {a b : Bool}, ((a && b) = false) = (a = false ∨ b = false)) ∧ (∀ {a b : Bool}, ((a || b) = false) = (a = false ∧ b = false))
    ∧ (∀ {a b : Int}, ((a == b) = true) = (a = b)) ∧ (∀ {a b : Int}, ((a != b) = true) = (a ≠ b)) ∧ (∀ {a b : Int}, ((a == b) = false) = (a ≠ b)) ∧ (∀ {a b : Int}, ((a != b) = false) = (a = b))
    ∧ (∀ {a b : List UInt8}, ((a == b) = true) = (a = b)) ∧ (∀ {a b : List UInt8}, ((a != b) = true) = (a ≠ b)) ∧ (∀ {a b : List UInt8}, ((a == b) = false) = (a ≠ b)) ∧ (∀ {a b : List UInt8}, ((a != b) = false) = (a = b))
    ∧ ((true = false) = False) ∧ ((false = true) = False) ∧ ((true = true) = True) ∧ ((false = false) = True) ∧ (∀ p : Prop, (False ∧ p) = False) ∧ (∀ p : Prop, (p ∧ False) = False) ∧ (∀ p : Prop, (True ∧ p) = p) ∧ (∀ p : Prop, (p ∧ True) = p)
    ∧ (∀ p : Prop, (p ∨ False) = p) ∧ (∀ p : Prop, (False ∨ p) = p) ∧ (∀ p : Prop, (p ∨ True) = True) ∧ (∀ p : Prop, (True ∨ p) = True) ∧ ((¬True) = False) ∧ ((¬False) = True) ∧ Int.toNat 0 = 0 := by
  refine ⟨?_, ?_, ?_, ?_, ?_, ?_, ?_, ?_, ?_, ?_, ?_, ?_, ?_, ?_, ?_, ?_, ?_, ?_, ?_, ?_, ?_, ?_, ?_, ?_, ?_, ?_, ?_, ?_, ?_, ?_, ?_, ?_, rfl⟩ <;> intros <;> simp
  · rename_i a b c; cases a <;> simp
  · rename_i a b c; cases a <;> simp
  · rename_i a b; cases a <;> cases b <;> simp
end Pv
end Go.Proofs.YtknidebojogodaaGreatDoor
/- THE DECK: lists of numbers to choose by; what New, Next and Mod compute. -/
set_option linter.unusedSimpArgs false
set_option linter.unusedVariables false
namespace Go.Proofs.YtknidebojogodaaGreatDoor
namespace Pv
theorem mix : Tryz.prog.follows .mixedOrders = true := by kernel_rfl
def c15 : C := (.seq (.reg [⟨(some 4), 64, none, .mv (.c (.int .i64 0))⟩])
  (.seq (.reg [⟨(some 5), 80, none, .mv (.t 0)⟩,
    ⟨(some 6), 96, none, .mv (.t 1)⟩,
    ⟨(some 7), 112, none, .bi false .rem (.t 5) (.t 6)⟩,
    ⟨(some 8), 128, none, .mv (.t 1)⟩,
    ⟨(some 9), 144, none, .bi false .add (.t 7) (.t 8)⟩,
    ⟨(some 10), 160, none, .mv (.t 1)⟩,
    ⟨(some 11), 176, none, .bi false .rem (.t 9) (.t 10)⟩,
    ⟨(some 4), 64, none, .mv (.t 11)⟩])
  .ret))
def c22 : C := (.seq (.reg [⟨(some 4), 64, none, .mv (.c (.int .i64 0))⟩])
  (.seq (.seq (.drw [⟨(some 6), 96, none, .mv (.t 1)⟩,
    ⟨(some 7), 112, none, .bi false .lss (.t 6) (.c (.int .i64 1))⟩,
    ⟨(some 8), 128, none, .mv (.t 7)⟩,
    ⟨(some 9), 144, (some (8, false)), .mv (.t 0)⟩,
    ⟨(some 10), 160, (some (8, false)), .nc (.t 9)⟩,
    ⟨(some 11), 176, (some (8, false)), .fa 1 (.t 10)⟩,
    ⟨(some 12), 192, (some (8, false)), .ld 1 false (.t 11)⟩,
    ⟨(some 13), 208, (some (8, false)), .mv (.t 0)⟩,
    ⟨(some 14), 224, (some (8, false)), .nc (.t 13)⟩,
    ⟨(some 15), 240, (some (8, false)), .fa 0 (.t 14)⟩,
    ⟨(some 16), 256, (some (8, false)), .ld 1 false (.t 15)⟩,
    ⟨(some 17), 272, (some (8, false)), .len (.t 16)⟩,
    ⟨(some 18), 288, (some (8, false)), .bi false .geq (.t 12) (.t 17)⟩,
    ⟨(some 19), 304, none, .pick (.t 8) (.c (.bool true)) (.t 18)⟩]
    [(3, 7, 9), (3, 8, 9), (3, 9, 9), (3, 10, 9), (3, 11, 9), (4, 7, 10), (4, 8, 10), (4, 9, 10), (4, 10, 10), (4, 11, 10), (5, 7, 11), (5, 8, 11), (5, 9, 11), (5, 10, 11), (5, 11, 11), (6, 7, 12), (6, 8, 12), (6, 9, 12), (6, 10, 12), (6, 11, 12)])
  (.cond (.t 19) (.seq (.reg [⟨(some 4), 64, none, .mv (.c (.int .i64 0))⟩])
  .ret) .skip))
  (.seq (.drw [⟨(some 20), 320, none, .mv (.t 0)⟩,
    ⟨(some 21), 336, none, .nc (.t 20)⟩,
    ⟨(some 22), 352, none, .fa 0 (.t 21)⟩,
    ⟨(some 23), 368, none, .ld 1 false (.t 22)⟩,
    ⟨(some 24), 384, none, .mv (.t 0)⟩,
    ⟨(some 25), 400, none, .nc (.t 24)⟩,
    ⟨(some 26), 416, none, .fa 1 (.t 25)⟩,
    ⟨(some 27), 432, none, .ld 1 false (.t 26)⟩,
    ⟨(some 28), 448, none, .ia 1 (.t 23) (.t 27)⟩,
    ⟨(some 29), 464, none, .ld 1 false (.t 28)⟩,
    ⟨(some 5), 80, none, .mv (.t 29)⟩]
    [(0, 4, 20), (0, 5, 20), (0, 6, 20), (0, 7, 20), (1, 4, 21), (1, 5, 21), (1, 6, 21), (1, 7, 21), (2, 4, 22), (2, 5, 22), (2, 6, 22), (2, 7, 22), (3, 4, 23), (3, 5, 23), (3, 6, 23), (3, 7, 23)])
  (.seq (.reg [⟨(some 30), 480, none, .mv (.t 0)⟩,
    ⟨(some 31), 496, none, .nc (.t 30)⟩,
    ⟨(some 32), 512, none, .fa 1 (.t 31)⟩,
    ⟨(some 33), 528, none, .ld 1 false (.t 32)⟩,
    ⟨(some 34), 544, none, .bi false .add (.t 33) (.c (.int .i64 1))⟩,
    ⟨(some 35), 560, none, .nc (.t 30)⟩,
    ⟨(some 36), 576, none, .fa 1 (.t 35)⟩,
    ⟨none, 0, none, .st 1 (.t 36) (.t 34)⟩])
  (.seq (.reg [⟨(some 37), 592, none, .mv (.t 5)⟩,
    ⟨(some 38), 608, none, .mv (.t 1)⟩,
    ⟨(some 39), 624, none, .call (.c (.fn (.func 15) [] [])) [(.t 37), (.t 38)]⟩,
    ⟨(some 4), 64, none, .mv (.t 39)⟩])
  .ret)))))
def c8 : C := (.seq (.reg [⟨(some 2), 32, none, .mv (.c (.raw (.pointer none)))⟩])
  (.seq (.reg [⟨(some 3), 48, none, .mv (.t 0)⟩,
    ⟨(some 4), 64, none, .bd [(.nil 1), (.int .i64 0)] [(0, 1, (.t 3))]⟩,
    ⟨(some 5), 80, none, .bx 2 (.t 4)⟩,
    ⟨(some 2), 32, none, .mv (.t 5)⟩])
  .ret))
theorem fits15 : fits Tryz.prog false Tryz.f15 2 12 [(4, none)] = some c15.er := by kernel_rfl
theorem fits22 : fits Tryz.prog false Tryz.f22 2 40 [(4, none)] = some c22.er := by kernel_rfl
theorem fits8 : fits Tryz.prog false Tryz.f8 1 6 [(2, none)] = some c8.er := by kernel_rfl
theorem bif_t {a b c : Bool} : (bif a then b else c) = true ↔ (a = true ∧ b = true) ∨ (a = false ∧ c = true) := by cases a <;> simp
theorem bif_f {a b c : Bool} : (bif a then b else c) = false ↔ (a = true ∧ b = false) ∨ (a = false ∧ c = false) := by cases a <;> simp
def eInt (n : Int) : List PV := [.int .i64 n]
theorem mod_mod (n k : Int) (hk : 0 < k) : (n.tmod k + k).tmod k = n % k := by
  have h1 : -k < n.tmod k := by
    have := Int.lt_tmod_of_pos n hk; omega
  have h2 : n.tmod k < k := Int.tmod_lt_of_pos n hk
  rw [Int.tmod_eq_emod_of_nonneg (by omega), Int.add_emod_right]
  have := Int.mul_tdiv_add_tmod n k
  rw [← this]
  rw [Int.add_comm (k * _), Int.add_mul_emod_self_left]
  congr 1
  rw [Int.add_comm, this]
theorem call_mod (n k : Int) (hk : 0 < k) (hk2 : k ≤ 4611686018427387904) : PureCall Tryz.prog 15 [.int .i64 n, .int .i64 k] [] ⟨.int .i64 (n % k), [], []⟩ := by
  refine pure_call mix Tryz.func15 fits15 rfl ?_
  conv => whnf
  have h1 := Int.lt_tmod_of_pos n hk
  have h2 := Int.tmod_lt_of_pos n hk
  refine ⟨?_, [], ?_⟩
  · (try conv => whnf)
    (repeat' (first | exact True.intro | exact fun _ h => h | refine inR64_of ?_ ?_ | apply And.intro | refine maxLen_ge ?_)) <;> (first | omega | decide | (dsimp only; omega) | (dsimp only [List.length_cons, List.length_nil]; omega) | (intro hg; rw [hg]; rfl) | (intro hg hh; rw [hg, hh]; rfl) | (intro hg; simp [-List.getD_eq_getElem?_getD, -Int.default_eq_zero] at hg; first | omega | (refine inR64_of ?_ ?_ <;> omega) | (constructor <;> omega)) | (simp [-List.getD_eq_getElem?_getD, -Int.default_eq_zero]; done))
  conv => whnf
  refine ⟨rfl, ?_, trivial, trivial⟩
  all_goals repeat' (first | exact True.intro | refine leF_cons rfl ?_ ?_ | refine leS_cons rfl ?_ ?_ | (show PLe _ _ _ _; conv => whnf) | (show SLe _ _ _ _; conv => whnf) | (show PLeL _ _ _ _; conv => whnf) | apply And.intro | rfl | exact Nat.le_refl _ | exact fun _ _ => rfl | exact rowEq0 _ _)
  exact mod_mod n k hk
structure Dk where
  l : List Int
  at_ : Nat
  deriving Inhabited
def eDk (τ : Nat) (d : Dk) : List PV := [.sl τ 1 d.l.length (fl eInt d.l), .int .i64 d.at_]
def nxt (d : Dk) (n : Int) : Int := if n < 1 ∨ d.l.length ≤ d.at_ then 0 else d.l.getD d.at_ default % n
def nxtD (d : Dk) (n : Int) : Dk := if n < 1 ∨ d.l.length ≤ d.at_ then d else ⟨d.l, d.at_ + 1⟩
theorem nxtD_len (d : Dk) (n : Int) : (nxtD d n).l = d.l := by unfold nxtD; split <;> rfl
theorem nxtD_at (d : Dk) (n : Int) : (nxtD d n).at_ ≤ d.at_ + 1 := by unfold nxtD; split <;> simp
theorem nxt_rng (d : Dk) (n : Int) : 0 ≤ nxt d n ∧ (nxt d n < n ∨ nxt d n = 0) := by
  unfold nxt; split
  · omega
  · rename_i h
    have h1 : 0 < n := by omega
    exact ⟨Int.emod_nonneg _ (by omega), .inl (Int.emod_lt_of_pos _ h1)⟩
theorem nxt_lt (d : Dk) {n : Int} (h : 0 < n) : 0 ≤ nxt d n ∧ nxt d n < n := by
  have := nxt_rng d n; omega
theorem call_next (τ : Nat) (d : Dk) (n : Int) (hd : d.at_ ≤ 1000000000) (hn : n ≤ 4611686018427387904) : PureCall Tryz.prog 22 [.pt 0 0 0, .int .i64 n] [.box (eDk τ d)] ⟨.int .i64 (nxt d n), [.box (eDk τ (nxtD d n))], []⟩ := by
  refine pure_call mix Tryz.func22 fits22 rfl ?_
  conv => whnf
  refine ⟨rfl, ?_⟩
  conv => whnf
  refine ⟨?_, fun hc => ?_, fun hc => ?_⟩
  · (try conv => whnf)
    (repeat' (first | exact True.intro | exact fun _ h => h | refine inR64_of ?_ ?_ | apply And.intro | refine maxLen_ge ?_)) <;> (first | omega | decide | (dsimp only; omega) | (dsimp only [List.length_cons, List.length_nil]; omega) | (intro hg; rw [hg]; rfl) | (intro hg hh; rw [hg, hh]; rfl) | (intro hg; simp [-List.getD_eq_getElem?_getD, -Int.default_eq_zero] at hg; first | omega | (refine inR64_of ?_ ?_ <;> omega) | (constructor <;> omega)) | (simp [-List.getD_eq_getElem?_getD, -Int.default_eq_zero]; done))
  · simp [-List.getD_eq_getElem?_getD, -Int.default_eq_zero] at hc
    have hc' : n < 1 ∨ d.l.length ≤ d.at_ := by omega
    rw [show nxt d n = 0 from if_pos hc', show nxtD d n = d from if_pos hc']
    conv => whnf
    refine ⟨?_, [], ?_⟩
    · (try conv => whnf)
      (repeat' (first | exact True.intro | exact fun _ h => h | refine inR64_of ?_ ?_ | apply And.intro | refine maxLen_ge ?_)) <;> (first | omega | decide | (dsimp only; omega) | (dsimp only [List.length_cons, List.length_nil]; omega) | (intro hg; rw [hg]; rfl) | (intro hg hh; rw [hg, hh]; rfl) | (intro hg; simp [-List.getD_eq_getElem?_getD, -Int.default_eq_zero] at hg; first | omega | (refine inR64_of ?_ ?_ <;> omega) | (constructor <;> omega)) | (simp [-List.getD_eq_getElem?_getD, -Int.default_eq_zero]; done))
    conv => whnf
    refine ⟨rfl, ?_, ?_, trivial⟩
    all_goals repeat' (first | exact True.intro | refine leF_cons rfl ?_ ?_ | refine leS_cons rfl ?_ ?_ | (show PLe _ _ _ _; conv => whnf) | (show SLe _ _ _ _; conv => whnf) | (show PLeL _ _ _ _; conv => whnf) | apply And.intro | rfl | exact Nat.le_refl _ | exact fun _ _ => rfl | exact rowEq0 _ _)
  · simp [-List.getD_eq_getElem?_getD, -Int.default_eq_zero] at hc
    have hc' : ¬ (n < 1 ∨ d.l.length ≤ d.at_) := by omega
    rw [show nxt d n = d.l.getD d.at_ default % n from if_neg hc', show nxtD d n = ⟨d.l, d.at_ + 1⟩ from if_neg hc']
    conv => whnf
    refine ⟨rfl, ?_⟩
    conv => whnf
    refine ⟨_, fun _ => call_mod (d.l.getD ((d.at_ : Int)).toNat default) n (by omega) hn, ?_⟩
    conv => whnf
    refine ⟨?_, [], ?_⟩
    · (try conv => whnf)
      (repeat' (first | exact True.intro | exact fun _ h => h | refine inR64_of ?_ ?_ | apply And.intro | refine maxLen_ge ?_)) <;> (first | omega | decide | (dsimp only; omega) | (dsimp only [List.length_cons, List.length_nil]; omega) | (intro hg; rw [hg]; rfl) | (intro hg hh; rw [hg, hh]; rfl) | (intro hg; simp [-List.getD_eq_getElem?_getD, -Int.default_eq_zero] at hg; first | omega | (refine inR64_of ?_ ?_ <;> omega) | (constructor <;> omega)) | (simp [-List.getD_eq_getElem?_getD, -Int.default_eq_zero]; done))
    conv => whnf
    refine ⟨rfl, ?_, ?_, trivial⟩
    all_goals repeat' (first | exact True.intro | refine leF_cons rfl ?_ ?_ | refine leS_cons rfl ?_ ?_ | (show PLe _ _ _ _; conv => whnf) | (show SLe _ _ _ _; conv => whnf) | (show PLeL _ _ _ _; conv => whnf) | apply And.intro | rfl | exact Nat.le_refl _ | exact fun _ _ => rfl | exact rowEq0 _ _)
theorem call_new (τ : Nat) (l : List Int) : PureCall Tryz.prog 8 [.sl τ 1 l.length (fl eInt l)] [] ⟨.pt 1000000000 0 0, [], [.box (eDk τ ⟨l, 0⟩)]⟩ := by
  refine pure_call mix Tryz.func8 fits8 rfl ?_
  conv => whnf
  refine ⟨trivial, [80], ?_⟩
  conv => whnf
  refine ⟨rfl, ?_, trivial, ?_⟩
  all_goals repeat' (first | exact True.intro | refine leF_cons rfl ?_ ?_ | refine leS_cons rfl ?_ ?_ | (show PLe _ _ _ _; conv => whnf) | (show SLe _ _ _ _; conv => whnf) | (show PLeL _ _ _ _; conv => whnf) | apply And.intro | rfl | exact Nat.le_refl _ | exact fun _ _ => rfl | exact rowEq0 _ _)
end Pv
end Go.Proofs.YtknidebojogodaaGreatDoor
/- CONDITIONS as plain values. -/
set_option linter.unusedSimpArgs false
set_option linter.unusedVariables false
namespace Go.Proofs.YtknidebojogodaaGreatDoor
namespace Pv
structure Cd where
  r : Int
  k : Int
  v : Int
  f : Int
  u : Int
  a : Int
  b : Int
  deriving DecidableEq
instance : Inhabited Cd := ⟨⟨0, 0, 0, 0, 0, 0, 0⟩⟩
def eCd (r : Cd) : List PV := [.int .i64 r.r, .int .i64 r.k, .int .i64 r.v, .int .i64 r.f, .int .i64 r.u, .int .i64 r.a, .int .i64 r.b]
def it {α : Type} (f : α → α) : Nat → α → α
  | 0, s => s
  | n + 1, s => it f n (f s)
end Pv
end Go.Proofs.YtknidebojogodaaGreatDoor
/- LAW 13, PLAIN: conditions as text, and read back. No program in sight. -/
set_option linter.unusedSimpArgs false
set_option linter.unusedVariables false
namespace Go.Proofs.YtknidebojogodaaGreatDoor
namespace Pv
theorem splitC_clean {c : UInt8} : ∀ {a : List UInt8}, (∀ x ∈ a, x ≠ c) → splitC c a = [a]
  | [], _ => rfl
  | x :: xs, h => by
    have ih := splitC_clean (c := c) (a := xs) (fun y hy => h y (by simp [hy]))
    simp only [splitC, if_neg (h x (by simp)), ih]
theorem splitC_cut {c : UInt8} {r : List UInt8} : ∀ {a : List UInt8}, (∀ x ∈ a, x ≠ c) → splitC c (a ++ c :: r) = a :: splitC c r
  | [], _ => by simp [splitC]
  | x :: xs, h => by
    have ih := splitC_cut (c := c) (r := r) (a := xs) (fun y hy => h y (by simp [hy]))
    simp only [List.cons_append, splitC, if_neg (h x (by simp)), ih]
/-! ### numerals -/
theorem dig_nat {d : Nat} (h : d < 10) : (UInt8.ofNat (48 + d)).toNat = 48 + d := by
  rw [UInt8.toNat_ofNat']; omega
theorem decDigits_small {u : Nat} (h : u < 10) : Lib.decDigits u = [UInt8.ofNat (48 + u)] := by rw [Lib.decDigits, dif_pos h]
theorem decDigits_big {u : Nat} (h : ¬ u < 10) : Lib.decDigits u = Lib.decDigits (u / 10) ++ [UInt8.ofNat (48 + u % 10)] := by rw [Lib.decDigits, dif_neg h]
theorem decDigits_dig (u : Nat) : ∀ x ∈ Lib.decDigits u, 48 ≤ x.toNat ∧ x.toNat ≤ 57 := by
  induction u using Nat.strongRecOn with
  | ind u ih =>
    intro x hx
    by_cases h : u < 10
    · rw [decDigits_small h, List.mem_singleton] at hx
      rw [hx, dig_nat h]; omega
    · rw [decDigits_big h, List.mem_append, List.mem_singleton] at hx
      rcases hx with hx | hx
      · exact ih (u / 10) (by omega) x hx
      · rw [hx, dig_nat (by omega)]; omega
theorem digs_snoc : ∀ {s : List UInt8} {a : Int} {d : Nat}, d < 10 → digs a (s ++ [UInt8.ofNat (48 + d)]) = (digs a s).map fun b => 10 * b + (d : Int)
  | [], a, d, h => by
    simp only [List.nil_append, digs, dig_nat h, Option.map_some]
    rw [if_neg (by omega)]
    congr 1
    omega
  | c :: cs, a, d, h => by
    simp only [List.cons_append, digs]
    split
    · rfl
    · exact digs_snoc h
theorem digs_decD (u : Nat) : digs 0 (Lib.decDigits u) = some (u : Int) := by
  induction u using Nat.strongRecOn with
  | ind u ih =>
    by_cases h : u < 10
    · rw [decDigits_small h]
      have := digs_snoc (s := []) (a := 0) h
      rw [List.nil_append] at this
      rw [this]
      simp [digs]
    · rw [decDigits_big h, digs_snoc (by omega), ih (u / 10) (by omega)]
      simp only [Option.map_some]
      congr 1
      omega
theorem decDigits_len {k : Nat} : ∀ {u : Nat}, 1 ≤ k → u < 10 ^ k → (Lib.decDigits u).length ≤ k := by
  induction k with
  | zero => intro u h; omega
  | succ k ih =>
    intro u _ hu
    by_cases h : u < 10
    · rw [decDigits_small h]; simp
    · rw [decDigits_big h, List.length_append]
      have hk : 1 ≤ k := by
        rcases k with _ | k
        · simp at hu; omega
        · omega
      have h2 : u / 10 < 10 ^ k := by
        rw [Nat.div_lt_iff_lt_mul (by decide), ← Nat.pow_succ]; exact hu
      have := ih hk h2
      simp only [List.length_cons, List.length_nil]; omega
theorem decDigits_ne (u : Nat) : 1 ≤ (Lib.decDigits u).length := by
  by_cases h : u < 10
  · rw [decDigits_small h]; simp
  · rw [decDigits_big h]; simp
theorem decDigits_head (u : Nat) (h1 : 1 ≤ u) : ((Lib.decDigits u).getD 0 0).toNat ≠ 48 := by
  induction u using Nat.strongRecOn with
  | ind u ih =>
    by_cases h : u < 10
    · rw [decDigits_small h]
      show (UInt8.ofNat (48 + u)).toNat ≠ 48
      rw [dig_nat h]; omega
    · have h2 := ih (u / 10) (by omega) (by omega)
      have h3 := decDigits_ne (u / 10)
      rw [decDigits_big h, List.getD_eq_getElem?_getD, List.getElem?_append_left (by omega), ← List.getD_eq_getElem?_getD]
      exact h2
theorem itoa_clean {n : Int} (h0 : 0 ≤ n) : ∀ x ∈ Lib.itoa n, x ≠ 32 ∧ x ≠ 10 := fun x hx => by
  have he : Lib.itoa n = Lib.decDigits n.toNat := by unfold Lib.itoa; rw [if_neg (by omega)]
  rw [he] at hx
  have := decDigits_dig _ x hx
  refine ⟨fun e => ?_, fun e => ?_⟩ <;> (subst e; revert this; decide)
theorem itoa_num {n : Int} (h0 : 0 ≤ n) : ∀ x ∈ Lib.itoa n, 48 ≤ x.toNat ∧ x.toNat ≤ 57 := fun x hx => by
  have he : Lib.itoa n = Lib.decDigits n.toNat := by unfold Lib.itoa; rw [if_neg (by omega)]
  rw [he] at hx
  exact decDigits_dig _ x hx
theorem itoa_word {n : Int} (h0 : 0 ≤ n) {x : UInt8} {r : List UInt8} (hx : 57 < x.toNat) : Lib.itoa n ≠ x :: r := fun e => by
  have := itoa_num h0 x (by rw [e]; simp)
  omega
theorem numF_itoa {n : Int} (h0 : 0 ≤ n) (h1 : n ≤ 1073741824) : numF (Lib.itoa n) = some n := by
  have he : Lib.itoa n = Lib.decDigits n.toNat := by unfold Lib.itoa; rw [if_neg (by omega)]
  have hl := decDigits_len (k := 10) (u := n.toNat) (by decide) (by
    have : n.toNat ≤ 1073741824 := by omega
    exact Nat.lt_of_le_of_lt this (by decide))
  have hn := decDigits_ne n.toNat
  rw [he]
  unfold numF
  rw [if_neg (by omega), digs_decD]
  congr 1; omega
def wRank : List UInt8 := [114, 97, 110, 107]
def wLeast : List UInt8 := [108, 101, 97, 115, 116]
def wMost : List UInt8 := [109, 111, 115, 116]
def wUp : List UInt8 := [117, 112]
def wDown : List UInt8 := [100, 111, 119, 110]
def wDays : List UInt8 := [100, 97, 121, 115]
def wAbove : List UInt8 := [97, 98, 111, 118, 101]
def wBelow : List UInt8 := [98, 101, 108, 111, 119]
def kindW (k : Int) : List UInt8 := if k = 1 then wLeast else if k = 2 then wMost else if k = 3 then wUp else if k = 4 then wDown else []
def kindOf (w : List UInt8) : Int := if w = wLeast then 1 else if w = wMost then 2 else if w = wUp then 3 else if w = wDown then 4 else 0
def badC (c : Cd) : Prop := ¬ (0 ≤ c.v ∧ c.v ≤ 1073741824) ∨ ¬ ((0 ≤ c.f ∧ c.f ≤ 364) ∧ 0 ≤ c.u ∧ c.u ≤ 364) ∨ ¬ (0 ≤ c.a ∧ c.a ≤ 16777216) ∨ ¬ (0 ≤ c.b ∧ c.b ≤ 16777216) ∨ c.b < c.a
instance (c : Cd) : Decidable (badC c) := by unfold badC; infer_instance
def oneC (c : Cd) : Int := if c.r < 1 ∨ 9 < c.r then 1 else if c.k < 1 ∨ 4 < c.k then 5 else if badC c then 1 else 0
theorem oneC_ok {c : Cd} (h : oneC c = 0) : (1 ≤ c.r ∧ c.r ≤ 9) ∧ (1 ≤ c.k ∧ c.k ≤ 4) ∧ ¬ badC c := by
  unfold oneC at h
  split at h
  · cases h
  split at h
  · cases h
  split at h
  · cases h
  · exact ⟨by omega, by omega, by assumption⟩
def partsO : Cd → Bool → Bool → Bool → List (List UInt8) → Option Cd
  | c, _, _, _, [] => some c
  | _, _, _, _, [_] => none
  | c, d, a, b, w :: x :: r =>
    if w = wDays then if d = true then none else match r with
      | [] => none
      | y :: r' => match numF x, numF y with
        | some m, some n => partsO { c with f := m, u := n } true a b r'
        | _, _ => none
    else if w = wAbove then if a = true then none else match numF x with
      | some m => partsO { c with a := m } d true b r
      | none => none
    else if w = wBelow then if b = true then none else match numF x with
      | some m => partsO { c with b := m } d a true r
      | none => none
    else none
def condO : List (List UInt8) → Option Cd
  | rk :: x :: kd :: y :: r => if rk = wRank then match numF x, numF y with
      | some m, some n => if kindOf kd = 0 then none else partsO ⟨m, kindOf kd, n, 0, 364, 0, 16777216⟩ false false false r
      | _, _ => none
    else none
  | _ => none
def daysW (c : Cd) : List (List UInt8) := if c.f = 0 ∧ c.u = 364 then [] else [wDays, Lib.itoa c.f, Lib.itoa c.u]
def aboveW (c : Cd) : List (List UInt8) := if c.a = 0 then [] else [wAbove, Lib.itoa c.a]
def belowW (c : Cd) : List (List UInt8) := if c.b = 16777216 then [] else [wBelow, Lib.itoa c.b]
def wordsOf (c : Cd) : List (List UInt8) := [wRank, Lib.itoa c.r, kindW c.k, Lib.itoa c.v] ++ (daysW c ++ (aboveW c ++ belowW c))
theorem kind_back {k : Int} (h : 1 ≤ k ∧ k ≤ 4) : kindOf (kindW k) = k := by
  have : k = 1 ∨ k = 2 ∨ k = 3 ∨ k = 4 := by omega
  rcases this with rfl | rfl | rfl | rfl <;> decide
theorem below_back (c : Cd) (d a : Bool) (h : 0 ≤ c.b ∧ c.b ≤ 16777216) (e : Cd) (he : { e with b := c.b } = c) (h0 : c.b = 16777216 → e = c) : partsO e d a false (belowW c) = some c := by
  unfold belowW
  split
  · rename_i hb
    unfold partsO
    rw [h0 hb]
  · unfold partsO
    rw [if_neg (by decide), if_neg (by decide), if_pos rfl, if_neg (by decide), numF_itoa h.1 (by omega)]
    dsimp only
    rw [he]
    unfold partsO
    rfl
theorem above_back (c : Cd) (d : Bool) (h : 0 ≤ c.a ∧ c.a ≤ 16777216) (hb : 0 ≤ c.b ∧ c.b ≤ 16777216) (e : Cd) (he : { e with a := c.a, b := c.b } = c) (h0 : e.a = 0) (h1 : e.b = 16777216) : partsO e d false false (aboveW c ++ belowW c) = some c := by
  unfold aboveW
  split
  · rename_i ha
    rw [List.nil_append]
    refine below_back c d false hb e ?_ fun h2 => ?_
    · rw [← he]; cases e; dsimp only at h0 he ⊢; subst h0; congr
      rw [← ha]
    · rw [← he]; cases e; dsimp only at h0 h1 ⊢; subst h0; subst h1; rw [ha, h2]
  · show partsO e d false false (wAbove :: Lib.itoa c.a :: belowW c) = _
    unfold partsO
    rw [if_neg (by decide), if_pos rfl, if_neg (by decide), numF_itoa h.1 (by omega)]
    dsimp only
    refine below_back c d true hb _ ?_ fun h2 => ?_
    · rw [← he]
    · rw [← he]; cases e; dsimp only at h1 ⊢; subst h1; rw [h2]
theorem cond_back {c : Cd} (h : oneC c = 0) : condO (wordsOf c) = some c := by
  obtain ⟨h1, h2, h3⟩ := oneC_ok h
  unfold badC at h3
  have hk := kind_back h2
  show condO (wRank :: Lib.itoa c.r :: kindW c.k :: Lib.itoa c.v :: (daysW c ++ (aboveW c ++ belowW c))) = _
  unfold condO
  dsimp only
  rw [if_pos rfl, numF_itoa (by omega) (by omega), numF_itoa (by omega) (by omega)]
  dsimp only
  rw [hk, if_neg (by omega)]
  unfold daysW
  split
  · rename_i hd
    rw [List.nil_append]
    refine above_back c false (by omega) (by omega) _ ?_ rfl rfl
    rw [← hd.1, ← hd.2]
  · show partsO _ false false false (wDays :: Lib.itoa c.f :: Lib.itoa c.u :: (aboveW c ++ belowW c)) = _
    unfold partsO
    rw [if_pos rfl, if_neg (by decide)]
    dsimp only
    rw [numF_itoa (by omega) (by omega), numF_itoa (by omega) (by omega)]
    dsimp only
    exact above_back c true (by omega) (by omega) _ rfl rfl rfl
end Pv
end Go.Proofs.YtknidebojogodaaGreatDoor
/- THE WALKS: made conditions. -/
set_option linter.unusedSimpArgs false
set_option linter.unusedVariables false
namespace Go.Proofs.YtknidebojogodaaGreatDoor
namespace Pv
def c46 : C := (.seq (.reg [⟨(some 2), 32, none, .al [(.int .i64 0), (.int .i64 0)]⟩])
  (.seq (.seq (.reg [⟨(some 3), 48, none, .mv (.t 0)⟩,
    ⟨(some 4), 64, none, .call (.c (.fn (.func 22) [] [])) [(.t 3), (.c (.int .i64 4))]⟩])
  (.block 0 (.seq (.reg [⟨(some 6), 96, none, .bi false .eql (.t 4) (.c (.int .i64 0))⟩,
    ⟨(some 5), 80, none, .mv (.t 6)⟩])
  (.cond (.t 5) (.seq (.reg [⟨(some 7), 112, none, .bd [(.int .i64 0), (.int .i64 0)] [(1, 1, (.c (.int .i64 364)))]⟩,
    ⟨none, 0, none, .st 2 (.t 2) (.t 7)⟩])
  .ret) (.seq (.reg [⟨(some 9), 144, none, .bi false .eql (.t 4) (.c (.int .i64 1))⟩,
    ⟨(some 8), 128, none, .mv (.t 9)⟩])
  (.cond (.t 8) (.seq (.reg [⟨(some 10), 160, none, .mv (.t 0)⟩,
    ⟨(some 11), 176, none, .call (.c (.fn (.func 22) [] [])) [(.t 10), (.c (.int .i64 10))]⟩,
    ⟨(some 12), 192, none, .mv (.t 0)⟩,
    ⟨(some 13), 208, none, .call (.c (.fn (.func 22) [] [])) [(.t 12), (.c (.int .i64 10))]⟩,
    ⟨(some 14), 224, none, .bd [(.int .i64 0), (.int .i64 0)] [(0, 1, (.t 11)), (1, 1, (.t 13))]⟩,
    ⟨none, 0, none, .st 2 (.t 2) (.t 14)⟩])
  .ret) .skip))))))
  (.seq (.reg [⟨(some 15), 240, none, .mv (.t 0)⟩,
    ⟨(some 16), 256, none, .call (.c (.fn (.func 22) [] [])) [(.t 15), (.c (.int .i64 365))]⟩,
    ⟨(some 17), 272, none, .mv (.t 0)⟩,
    ⟨(some 18), 288, none, .call (.c (.fn (.func 22) [] [])) [(.t 17), (.c (.int .i64 365))]⟩,
    ⟨(some 19), 304, none, .bd [(.int .i64 0), (.int .i64 0)] [(0, 1, (.t 16)), (1, 1, (.t 18))]⟩,
    ⟨none, 0, none, .st 2 (.t 2) (.t 19)⟩])
  .ret)))
theorem fits46 : fits Tryz.prog false Tryz.f46 1 20 [(2, some (2, true))] = some c46.er := by kernel_rfl
def c23 : C := (.seq (.reg [⟨(some 2), 32, none, .al [(.int .i64 0), (.int .i64 0), (.int .i64 0), (.int .i64 0), (.int .i64 0), (.int .i64 0), (.int .i64 0)]⟩])
  (.seq (.reg [⟨(some 4), 64, none, .mv (.t 0)⟩,
    ⟨(some 5), 80, none, .call (.c (.fn (.func 22) [] [])) [(.t 4), (.c (.int .i64 4))]⟩,
    ⟨(some 6), 96, none, .bi false .add (.c (.int .i64 1)) (.t 5)⟩,
    ⟨(some 7), 112, none, .mv (.t 0)⟩,
    ⟨(some 8), 128, none, .call (.c (.fn (.func 22) [] [])) [(.t 7), (.c (.int .i64 4))]⟩,
    ⟨(some 9), 144, none, .bi false .add (.c (.int .i64 1)) (.t 8)⟩,
    ⟨(some 10), 160, none, .mv (.t 0)⟩,
    ⟨(some 11), 176, none, .call (.c (.fn (.func 22) [] [])) [(.t 10), (.c (.int .i64 30))]⟩,
    ⟨(some 12), 192, none, .mv (.t 0)⟩,
    ⟨(some 13), 208, none, .call (.c (.fn (.func 46) [] [])) [(.t 12)]⟩,
    ⟨(some 14), 224, none, .bd [(.int .i64 0), (.int .i64 0), (.int .i64 0), (.int .i64 0), (.int .i64 0), (.int .i64 0), (.int .i64 0)] [(0, 1, (.t 6)), (1, 1, (.t 9)), (2, 1, (.t 11)), (3, 2, (.t 13)), (6, 1, (.c (.int .i64 16777216)))]⟩,
    ⟨(some 3), 48, none, .al [(.int .i64 0), (.int .i64 0), (.int .i64 0), (.int .i64 0), (.int .i64 0), (.int .i64 0), (.int .i64 0)]⟩,
    ⟨none, 0, none, .st 7 (.t 3) (.t 14)⟩])
  (.seq (.seq (.reg [⟨(some 15), 240, none, .mv (.t 0)⟩,
    ⟨(some 16), 256, none, .call (.c (.fn (.func 22) [] [])) [(.t 15), (.c (.int .i64 3))]⟩,
    ⟨(some 17), 272, none, .bi false .eql (.t 16) (.c (.int .i64 0))⟩])
  (.cond (.t 17) (.seq (.reg [⟨(some 18), 288, none, .mv (.t 0)⟩,
    ⟨(some 19), 304, none, .call (.c (.fn (.func 22) [] [])) [(.t 18), (.c (.int .i64 60))]⟩,
    ⟨(some 20), 320, none, .bi false .add (.c (.int .i64 90)) (.t 19)⟩,
    ⟨(some 21), 336, none, .fa 5 (.t 3)⟩,
    ⟨none, 0, none, .st 1 (.t 21) (.t 20)⟩])
  (.drw [⟨(some 22), 352, none, .fa 5 (.t 3)⟩,
    ⟨(some 23), 368, none, .ld 1 false (.t 22)⟩,
    ⟨(some 24), 384, none, .mv (.t 0)⟩,
    ⟨(some 25), 400, none, .call (.c (.fn (.func 22) [] [])) [(.t 24), (.c (.int .i64 80))]⟩,
    ⟨(some 26), 416, none, .bi false .add (.t 23) (.t 25)⟩,
    ⟨(some 27), 432, none, .fa 6 (.t 3)⟩,
    ⟨none, 0, none, .st 1 (.t 27) (.t 26)⟩]
    [(0, 2, 22), (0, 3, 22), (1, 2, 23), (1, 3, 23)])) .skip))
  (.seq (.reg [⟨(some 28), 448, none, .ld 7 true (.t 3)⟩,
    ⟨none, 0, none, .st 7 (.t 2) (.t 28)⟩])
  .ret))))
theorem fits23 : fits Tryz.prog false Tryz.f23 1 29 [(2, some (7, true))] = some c23.er := by kernel_rfl
def c7L1 : C := (.seq (.seq (.reg [⟨(some 7), 112, none, .mv (.t 4)⟩,
    ⟨(some 8), 128, none, .bi false .gtr (.t 7) (.c (.int .i64 0))⟩])
  (.cond (.t 8) .skip (.exit 0)))
  (.seq (.block 1 (.reg [⟨(some 11), 176, none, .mv (.t 3)⟩,
    ⟨(some 12), 192, none, .mv (.t 0)⟩,
    ⟨(some 13), 208, none, .call (.c (.fn (.func 23) [] [])) [(.t 12)]⟩,
    ⟨(some 14), 224, none, .bs 49 7 [(.t 13)]⟩,
    ⟨(some 15), 240, none, .app 49 7 56 (.t 11) (.t 14)⟩,
    ⟨(some 3), 48, none, .mv (.t 15)⟩]))
  (.reg [⟨(some 9), 144, none, .mv (.t 4)⟩,
    ⟨(some 10), 160, none, .bi false .sub (.t 9) (.c (.int .i64 1))⟩,
    ⟨(some 4), 64, none, .mv (.t 10)⟩])))
def c7 : C := (.seq (.reg [⟨(some 2), 32, none, .mv (.c (.nil 7))⟩])
  (.seq (.reg [⟨(some 3), 48, none, .mv (.c (.nil 7))⟩])
  (.seq (.seq (.reg [⟨(some 5), 80, none, .mv (.t 0)⟩,
    ⟨(some 6), 96, none, .call (.c (.fn (.func 22) [] [])) [(.t 5), (.c (.int .i64 7))]⟩,
    ⟨(some 4), 64, none, .mv (.t 6)⟩])
  (.block 0 (.loop c7L1)))
  (.seq (.reg [⟨(some 16), 256, none, .mv (.t 3)⟩,
    ⟨(some 2), 32, none, .mv (.t 16)⟩])
  .ret))))
theorem fits7 : fits Tryz.prog false Tryz.f7 1 17 [(2, none)] = some c7.er := by kernel_rfl
def spanF (d : Dk) : (Int × Int) × Dk :=
  let e := nxtD d 4
  if nxt d 4 = 0 then ((0, 364), e) else if nxt d 4 = 1 then ((nxt e 10, nxt (nxtD e 10) 10), nxtD (nxtD e 10) 10) else ((nxt e 365, nxt (nxtD e 365) 365), nxtD (nxtD e 365) 365)
def condF (d : Dk) : Cd × Dk :=
  let d1 := nxtD d 4
  let d2 := nxtD d1 4
  let d3 := nxtD d2 30
  let s := spanF d3
  let d5 := nxtD s.2 3
  if nxt s.2 3 = 0 then (⟨1 + nxt d 4, 1 + nxt d1 4, nxt d2 30, s.1.1, s.1.2, 90 + nxt d5 60, 90 + nxt d5 60 + nxt (nxtD d5 60) 80⟩, nxtD (nxtD d5 60) 80)
  else (⟨1 + nxt d 4, 1 + nxt d1 4, nxt d2 30, s.1.1, s.1.2, 0, 16777216⟩, d5)
def condN (s : List Cd × Dk) : List Cd × Dk := (s.1 ++ [(condF s.2).1], (condF s.2).2)
def condsF (d : Dk) : List Cd × Dk := it condN (nxt d 7).toNat ([], nxtD d 7)
theorem spanF_ok (d : Dk) : (0 ≤ (spanF d).1.1 ∧ (spanF d).1.1 ≤ 364 ∧ 0 ≤ (spanF d).1.2 ∧ (spanF d).1.2 ≤ 364) ∧ (spanF d).2.at_ ≤ d.at_ + 3 := by
  unfold spanF
  dsimp only
  have a0 := nxtD_at d 4
  generalize nxtD d 4 = e at a0 ⊢
  split
  · dsimp only; omega
  split
  · have r1 := nxt_lt e (n := 10) (by omega)
    have a1 := nxtD_at e 10
    generalize nxtD e 10 = e1 at a1 ⊢
    have r2 := nxt_lt e1 (n := 10) (by omega)
    have a2 := nxtD_at e1 10
    dsimp only; omega
  · have r1 := nxt_lt e (n := 365) (by omega)
    have a1 := nxtD_at e 365
    generalize nxtD e 365 = e1 at a1 ⊢
    have r2 := nxt_lt e1 (n := 365) (by omega)
    have a2 := nxtD_at e1 365
    dsimp only; omega
structure CondOK (c : Cd) : Prop where
  r : 1 ≤ c.r ∧ c.r ≤ 4
  k : 1 ≤ c.k ∧ c.k ≤ 4
  v : 0 ≤ c.v ∧ c.v ≤ 29
  f : 0 ≤ c.f ∧ c.f ≤ 364
  u : 0 ≤ c.u ∧ c.u ≤ 364
  a : 0 ≤ c.a ∧ c.a ≤ 149
  ab : c.a ≤ c.b
  b : c.b ≤ 16777216
theorem condF_ok (d : Dk) : CondOK (condF d).1 ∧ (condF d).2.at_ ≤ d.at_ + 9 := by
  unfold condF
  dsimp only
  have r0 := nxt_lt d (n := 4) (by omega)
  have a0 := nxtD_at d 4
  generalize nxtD d 4 = d1 at a0 ⊢
  have r1 := nxt_lt d1 (n := 4) (by omega)
  have a1 := nxtD_at d1 4
  generalize nxtD d1 4 = d2 at a1 ⊢
  have r2 := nxt_lt d2 (n := 30) (by omega)
  have a2 := nxtD_at d2 30
  generalize nxtD d2 30 = d3 at a2 ⊢
  obtain ⟨⟨s1, s2, s3, s4⟩, s5⟩ := spanF_ok d3
  generalize spanF d3 = S at s1 s2 s3 s4 s5 ⊢
  have a3 := nxtD_at S.2 3
  generalize nxtD S.2 3 = d5 at a3 ⊢
  split
  · have r4 := nxt_lt d5 (n := 60) (by omega)
    have a4 := nxtD_at d5 60
    generalize nxtD d5 60 = d6 at a4 ⊢
    have r5 := nxt_lt d6 (n := 80) (by omega)
    have a5 := nxtD_at d6 80
    refine ⟨⟨?_, ?_, ?_, ?_, ?_, ?_, ?_, ?_⟩, ?_⟩ <;> dsimp only <;> omega
  · refine ⟨⟨?_, ?_, ?_, ?_, ?_, ?_, ?_, ?_⟩, ?_⟩ <;> dsimp only <;> omega
theorem getD_pushC {α : Type} [Inhabited α] {P : α → Prop} {l : List α} {x : α} (h : ∀ i, i < l.length → P (l.getD i default)) (hx : P x) : ∀ i, i < (l ++ [x]).length → P ((l ++ [x]).getD i default) := fun i hi => by
  rw [List.length_append, List.length_cons, List.length_nil] at hi
  by_cases hi2 : i < l.length
  · have := h i hi2
    rw [List.getD_eq_getElem?_getD] at this ⊢
    rw [List.getElem?_append_left hi2]; exact this
  · have hi3 : i = l.length := by omega
    subst hi3
    rw [List.getD_eq_getElem?_getD, List.getElem?_append_right (Nat.le_refl _), Nat.sub_self]
    exact hx
theorem condI_ok : ∀ (n : Nat) (s : List Cd × Dk), (∀ i, i < s.1.length → CondOK (s.1.getD i default)) →
    (it condN n s).1.length = s.1.length + n ∧ (∀ i, i < (it condN n s).1.length → CondOK ((it condN n s).1.getD i default)) ∧ (it condN n s).2.at_ ≤ s.2.at_ + 9 * n
  | 0, s, h => ⟨rfl, h, Nat.le_refl _⟩
  | n + 1, s, h => by
    have h1 := condF_ok s.2
    have ih := condI_ok n (condN s) (getD_pushC h h1.1)
    have e1 : (condN s).1.length = s.1.length + 1 := by simp [condN]
    have e2 : (condN s).2 = (condF s.2).2 := rfl
    unfold it
    rw [e1, e2] at ih
    exact ⟨by omega, ih.2.1, by omega⟩
theorem condsF_ok (d : Dk) : (condsF d).1.length ≤ 6 ∧ (∀ i, i < (condsF d).1.length → CondOK ((condsF d).1.getD i default)) ∧ (condsF d).2.at_ ≤ d.at_ + 55 := by
  have r1 := nxt_lt d (n := 7) (by omega)
  have a1 := nxtD_at d 7
  have h := condI_ok (nxt d 7).toNat ([], nxtD d 7) (fun i hi => absurd hi (Nat.not_lt_zero _))
  unfold condsF
  simp only [List.length_nil] at h
  generalize it condN (nxt d 7).toNat ([], nxtD d 7) = W at h ⊢
  exact ⟨by omega, h.2.1, by omega⟩
set_option maxRecDepth 100000 in
set_option maxHeartbeats 8000000 in
theorem call46 (d : Dk) (hd : d.at_ ≤ 990000000) : PureCall Tryz.prog 46 [.pt 0 0 0] [.box (eDk 1 d)] ⟨.agg [.int .i64 (spanF d).1.1, .int .i64 (spanF d).1.2], [.box (eDk 1 (spanF d).2)], []⟩ := by
  refine pure_call mix Tryz.func46 fits46 rfl ?_
  conv => whnf
  refine ⟨_, fun _ => call_next 1 d 4 (by omega) (by omega), ?_⟩
  unfold spanF
  dsimp only
  have a0 := nxtD_at d 4
  generalize nxt d 4 = k
  generalize nxtD d 4 = e at a0 ⊢
  conv => whnf
  refine ⟨?_, fun hc => ?_, fun hc => ?_⟩
  · exact g0
  · have hk : k = 0 := beq_iff_eq.1 hc
    subst hk
    rw [if_pos rfl]
    conv => whnf
    refine ⟨?_, [], ?_⟩
    · exact g0
    conv => whnf
    refine ⟨rfl, ?_, ?_, trivial⟩
    all_goals repeat' (first | exact True.intro | refine leF_cons rfl ?_ ?_ | refine leS_cons rfl ?_ ?_ | (show PLe _ _ _ _; conv => whnf) | (show SLe _ _ _ _; conv => whnf) | (show PLeL _ _ _ _; conv => whnf) | apply And.intro | rfl | exact Nat.le_refl _ | exact fun _ _ => rfl | exact rowEq0 _ _)
  have hk : ¬ k = 0 := beq_eq_false_iff_ne.1 hc
  rw [if_neg hk]
  conv => whnf
  refine ⟨trivial, fun hc2 => ?_, fun hc2 => ?_⟩
  · have hk2 : k = 1 := beq_iff_eq.1 hc2
    rw [if_pos hk2]
    conv => whnf
    refine ⟨_, fun _ => call_next 1 e 10 (by omega) (by omega), ?_⟩
    have a1 := nxtD_at e 10
    generalize nxtD e 10 = e1 at a1 ⊢
    conv => whnf
    refine ⟨_, fun _ => call_next 1 e1 10 (by omega) (by omega), ?_⟩
    conv => whnf
    refine ⟨?_, [], ?_⟩
    · exact g0
    conv => whnf
    refine ⟨rfl, ?_, ?_, trivial⟩
    all_goals repeat' (first | exact True.intro | refine leF_cons rfl ?_ ?_ | refine leS_cons rfl ?_ ?_ | (show PLe _ _ _ _; conv => whnf) | (show SLe _ _ _ _; conv => whnf) | (show PLeL _ _ _ _; conv => whnf) | apply And.intro | rfl | exact Nat.le_refl _ | exact fun _ _ => rfl | exact rowEq0 _ _)
  · have hk2 : ¬ k = 1 := beq_eq_false_iff_ne.1 hc2
    rw [if_neg hk2]
    conv => whnf
    refine ⟨_, fun _ => call_next 1 e 365 (by omega) (by omega), ?_⟩
    have a1 := nxtD_at e 365
    generalize nxtD e 365 = e1 at a1 ⊢
    conv => whnf
    refine ⟨_, fun _ => call_next 1 e1 365 (by omega) (by omega), ?_⟩
    conv => whnf
    refine ⟨?_, [], ?_⟩
    · exact g0
    conv => whnf
    refine ⟨rfl, ?_, ?_, trivial⟩
    all_goals repeat' (first | exact True.intro | refine leF_cons rfl ?_ ?_ | refine leS_cons rfl ?_ ?_ | (show PLe _ _ _ _; conv => whnf) | (show SLe _ _ _ _; conv => whnf) | (show PLeL _ _ _ _; conv => whnf) | apply And.intro | rfl | exact Nat.le_refl _ | exact fun _ _ => rfl | exact rowEq0 _ _)
set_option maxRecDepth 100000 in
set_option maxHeartbeats 8000000 in
theorem call23 (d : Dk) (hd : d.at_ ≤ 980000000) : PureCall Tryz.prog 23 [.pt 0 0 0] [.box (eDk 1 d)] ⟨.agg (eCd (condF d).1), [.box (eDk 1 (condF d).2)], []⟩ := by
  refine pure_call mix Tryz.func23 fits23 rfl ?_
  unfold condF
  dsimp only
  conv => whnf
  refine ⟨_, fun _ => call_next 1 d 4 (by omega) (by omega), ?_⟩
  have r0 := nxt_lt d (n := 4) (by omega)
  have a0 := nxtD_at d 4
  generalize nxt d 4 = n0 at r0 ⊢
  generalize nxtD d 4 = d1 at a0 ⊢
  conv => whnf
  refine ⟨_, fun _ => call_next 1 d1 4 (by omega) (by omega), ?_⟩
  have r1 := nxt_lt d1 (n := 4) (by omega)
  have a1 := nxtD_at d1 4
  generalize nxt d1 4 = n1 at r1 ⊢
  generalize nxtD d1 4 = d2 at a1 ⊢
  conv => whnf
  refine ⟨_, fun _ => call_next 1 d2 30 (by omega) (by omega), ?_⟩
  have r2 := nxt_lt d2 (n := 30) (by omega)
  have a2 := nxtD_at d2 30
  generalize nxt d2 30 = n2 at r2 ⊢
  generalize nxtD d2 30 = d3 at a2 ⊢
  conv => whnf
  refine ⟨_, fun _ => call46 d3 (by omega), ?_⟩
  have s5 := (spanF_ok d3).2
  generalize spanF d3 = S at s5 ⊢
  obtain ⟨⟨f, u⟩, d4⟩ := S
  dsimp only at s5 ⊢
  conv => whnf
  refine ⟨_, fun _ => call_next 1 d4 3 (by omega) (by omega), ?_⟩
  have a3 := nxtD_at d4 3
  generalize nxt d4 3 = n3
  generalize nxtD d4 3 = d5 at a3 ⊢
  conv => whnf
  refine ⟨?_, fun hc => ?_, fun hc => ?_⟩
  · exact g0
  · have hk : n3 = 0 := beq_iff_eq.1 hc
    rw [if_pos hk]
    conv => whnf
    refine ⟨_, fun _ => call_next 1 d5 60 (by omega) (by omega), ?_⟩
    have r4 := nxt_lt d5 (n := 60) (by omega)
    have a4 := nxtD_at d5 60
    generalize nxt d5 60 = n4 at r4 ⊢
    generalize nxtD d5 60 = d6 at a4 ⊢
    conv => whnf
    refine ⟨_, fun _ => call_next 1 d6 80 (by omega) (by omega), ?_⟩
    have r5 := nxt_lt d6 (n := 80) (by omega)
    generalize nxt d6 80 = n5 at r5 ⊢
    generalize nxtD d6 80 = d7
    conv => whnf
    refine ⟨rfl, ?_⟩
    conv => whnf
    refine ⟨?_, [], ?_⟩
    · exact g0
    conv => whnf
    refine ⟨rfl, ?_, ?_, trivial⟩
    all_goals repeat' (first | exact True.intro | refine leF_cons rfl ?_ ?_ | refine leS_cons rfl ?_ ?_ | (show PLe _ _ _ _; conv => whnf) | (show SLe _ _ _ _; conv => whnf) | (show PLeL _ _ _ _; conv => whnf) | apply And.intro | rfl | exact Nat.le_refl _ | exact fun _ _ => rfl | exact rowEq0 _ _)
  · have hk : ¬ n3 = 0 := beq_eq_false_iff_ne.1 hc
    rw [if_neg hk]
    conv => whnf
    refine ⟨?_, [], ?_⟩
    · exact g0
    conv => whnf
    refine ⟨rfl, ?_, ?_, trivial⟩
    all_goals repeat' (first | exact True.intro | refine leF_cons rfl ?_ ?_ | refine leS_cons rfl ?_ ?_ | (show PLe _ _ _ _; conv => whnf) | (show SLe _ _ _ _; conv => whnf) | (show PLeL _ _ _ _; conv => whnf) | apply And.intro | rfl | exact Nat.le_refl _ | exact fun _ _ => rfl | exact rowEq0 _ _)
set_option maxRecDepth 100000 in
set_option maxHeartbeats 8000000 in
theorem call7 (d : Dk) (hd : d.at_ ≤ 970000000) : PureCall Tryz.prog 7 [.pt 0 0 0] [.box (eDk 1 d)] ⟨.sl 0 7 (condsF d).1.length (fl eCd (condsF d).1), [.box (eDk 1 (condsF d).2)], []⟩ := by
  refine pure_call mix Tryz.func7 fits7 rfl ?_
  conv => whnf
  refine ⟨_, fun _ => call_next 1 d 7 (by omega) (by omega), ?_⟩
  have r0 := nxt_lt d (n := 7) (by omega)
  have a0 := nxtD_at d 7
  unfold condsF
  obtain ⟨m0, hm0⟩ : ∃ m : Nat, (m : Int) = nxt d 7 := ⟨(nxt d 7).toNat, by omega⟩
  rw [← hm0] at r0 ⊢
  rw [Int.toNat_natCast]
  generalize nxtD d 7 = d0 at a0 ⊢
  conv => whnf
  refine ⟨?_, ?_⟩
  · exact g0
  refine LSem.adopt 3 1000000 49 7 7 rfl rfl ?_
  refine LSem.loop (n := 17) mix (α := Nat × List Cd × Dk) (fun s => s.1 + s.2.1.length = m0 ∧ it condN s.1 s.2 = it condN m0 ([], d0) ∧ s.2.2.at_ ≤ 970000001 + 9 * s.2.1.length)
    (fun s => [(0, .pt 0 0 0), (3, .os 1000000), (4, .int .i64 s.1)])
    (fun s => [(0, .box (eDk 1 s.2.2)), (1000000, .row 0 49 7 s.2.1.length (fl eCd s.2.1))]) (fun s => s.1) (m0, [], d0) ?_ ?_ ?_
  · exact ⟨rfl, rfl, by dsimp only; omega⟩
  · refine ⟨rfl, rfl, ?_, ?_⟩
    all_goals repeat' (first | exact True.intro | refine leF_cons rfl ?_ ?_ | refine leS_cons rfl ?_ ?_ | (show PLe _ _ _ _; conv => whnf) | (show SLe _ _ _ _; conv => whnf) | (show PLeL _ _ _ _; conv => whnf) | apply And.intro | rfl | exact Nat.le_refl _ | exact fun _ _ => rfl | exact rowEq0 _ _)
  · intro s hs
    obtain ⟨m, l, e⟩ := s
    obtain ⟨k1, k2, k3⟩ := hs
    dsimp only at k1 k2 k3
    conv => whnf
    refine ⟨trivial, fun hc => ?_, fun hc => ?_⟩
    · replace hc := of_decide_eq_true hc
      obtain ⟨m, rfl⟩ : ∃ m', m = m' + 1 := ⟨m - 1, by
        have h : (0 : Int) < m := hc
        omega⟩
      have hvs := condF_ok e
      have hst : it condN m (l ++ [(condF e).1], (condF e).2) = it condN m0 ([], d0) := k2
      have q := fl_push eCd l (condF e).1
      have hxl : (l ++ [(condF e).1]).length = l.length + 1 := by simp
      conv => whnf
      refine ⟨_, fun _ => call23 e (by omega), ?_⟩
      generalize condF e = W at hvs hst q hxl ⊢
      conv => whnf
      refine ⟨?_, (m, l ++ [W.1], W.2), ⟨?_, hst, ?_⟩, ?_, rfl, rfl, ?_, ?_⟩
      · exact g0
      · dsimp only; rw [hxl]; omega
      · dsimp only; rw [hxl]; omega
      · dsimp only; omega
      all_goals repeat' (first | exact True.intro | refine leF_cons rfl ?_ ?_ | refine leS_cons rfl ?_ ?_ | (show PLe _ _ _ _; conv => whnf) | (show SLe _ _ _ _; conv => whnf) | (show PLeL _ _ _ _; conv => whnf) | apply And.intro | rfl | exact Nat.le_refl _ | exact fun _ _ => rfl | exact rowEq0 _ _)
      all_goals first | exact q | (dsimp only; rw [hxl]; rfl) | (dsimp only; rw [hxl]; done) | (dsimp only; omega) | omega | skip
    · replace hc := of_decide_eq_false hc
      have h0 : m = 0 := by
        have h : ¬ (0 : Int) < m := hc
        omega
      subst h0
      have hp : (l, e) = it condN m0 ([], d0) := k2
      rw [← hp]
      conv => whnf
      refine ⟨?_, [], ?_⟩
      · exact g0
      conv => whnf
      refine ⟨rfl, ?_, ?_, trivial⟩
      all_goals repeat' (first | exact True.intro | refine leF_cons rfl ?_ ?_ | refine leS_cons rfl ?_ ?_ | (show PLe _ _ _ _; conv => whnf) | (show SLe _ _ _ _; conv => whnf) | (show PLeL _ _ _ _; conv => whnf) | apply And.intro | rfl | exact Nat.le_refl _ | exact fun _ _ => rfl | exact rowEq0 _ _)
end Pv
end Go.Proofs.YtknidebojogodaaGreatDoor
/- LAW 13, THE WALKS: the reader of words: its next word, its next number. -/
set_option linter.unusedSimpArgs false
set_option linter.unusedVariables false
namespace Go.Proofs.YtknidebojogodaaGreatDoor
namespace Pv
def c53 : C := (.seq (.reg [⟨(some 2), 32, none, .mv (.c (.str []))⟩])
  (.seq (.seq (.reg [⟨(some 4), 64, none, .mv (.t 0)⟩,
    ⟨(some 5), 80, none, .nc (.t 4)⟩,
    ⟨(some 6), 96, none, .fa 0 (.t 5)⟩,
    ⟨(some 7), 112, none, .ld 1 false (.t 6)⟩,
    ⟨(some 8), 128, none, .len (.t 7)⟩,
    ⟨(some 9), 144, none, .bi false .eql (.t 8) (.c (.int .i64 0))⟩])
  (.cond (.t 9) (.seq (.reg [⟨(some 10), 160, none, .mv (.t 0)⟩,
    ⟨(some 11), 176, none, .nc (.t 10)⟩,
    ⟨(some 12), 192, none, .fa 1 (.t 11)⟩,
    ⟨none, 0, none, .st 1 (.t 12) (.c (.bool true))⟩])
  (.seq (.reg [⟨(some 2), 32, none, .mv (.c (.str []))⟩])
  .ret)) .skip))
  (.seq (.reg [⟨(some 13), 208, none, .mv (.t 0)⟩,
    ⟨(some 14), 224, none, .nc (.t 13)⟩,
    ⟨(some 15), 240, none, .fa 0 (.t 14)⟩,
    ⟨(some 16), 256, none, .ld 1 false (.t 15)⟩,
    ⟨(some 17), 272, none, .ia 1 (.t 16) (.c (.int .i64 0))⟩,
    ⟨(some 18), 288, none, .ld 1 false (.t 17)⟩,
    ⟨(some 3), 48, none, .mv (.t 18)⟩])
  (.seq (.reg [⟨(some 19), 304, none, .mv (.t 0)⟩,
    ⟨(some 20), 320, none, .mv (.t 0)⟩,
    ⟨(some 21), 336, none, .nc (.t 20)⟩,
    ⟨(some 22), 352, none, .fa 0 (.t 21)⟩,
    ⟨(some 23), 368, none, .ld 1 false (.t 22)⟩,
    ⟨(some 24), 384, none, .slc 1 (.t 23) (some (.c (.int .i64 1))) none⟩,
    ⟨(some 25), 400, none, .nc (.t 19)⟩,
    ⟨(some 26), 416, none, .fa 0 (.t 25)⟩,
    ⟨none, 0, none, .st 1 (.t 26) (.t 24)⟩])
  (.seq (.reg [⟨(some 27), 432, none, .mv (.t 3)⟩,
    ⟨(some 2), 32, none, .mv (.t 27)⟩])
  .ret)))))
theorem fits53 : fits Tryz.prog false Tryz.f53 1 28 [(2, none)] = some c53.er := by kernel_rfl
def c54 : C := (.seq (.reg [⟨(some 2), 32, none, .mv (.c (.int .i64 0))⟩])
  (.seq (.reg [⟨(some 6), 96, none, .mv (.t 0)⟩,
    ⟨(some 7), 112, none, .call (.c (.fn (.func 53) [] [])) [(.t 6)]⟩,
    ⟨(some 3), 48, none, .mv (.t 7)⟩])
  (.seq (.seq (.reg [⟨(some 8), 128, none, .mv (.t 3)⟩,
    ⟨(some 9), 144, none, .lens (.t 8)⟩,
    ⟨(some 10), 160, none, .bi false .eql (.t 9) (.c (.int .i64 0))⟩,
    ⟨(some 11), 176, none, .mv (.t 10)⟩,
    ⟨(some 12), 192, (some (11, false)), .mv (.t 3)⟩,
    ⟨(some 13), 208, (some (11, false)), .lens (.t 12)⟩,
    ⟨(some 14), 224, (some (11, false)), .bi false .gtr (.t 13) (.c (.int .i64 10))⟩,
    ⟨(some 15), 240, none, .pick (.t 11) (.c (.bool true)) (.t 14)⟩,
    ⟨(some 16), 256, none, .mv (.t 15)⟩,
    ⟨(some 17), 272, (some (16, false)), .mv (.t 3)⟩,
    ⟨(some 18), 288, (some (16, false)), .call (.c (.fn (.func 71) [] [])) [(.t 17), (.c (.str [48, 49, 50, 51, 52, 53, 54, 55, 56, 57]))]⟩,
    ⟨(some 19), 304, (some (16, false)), .bi false .neq (.t 18) (.c (.str []))⟩,
    ⟨(some 20), 320, none, .pick (.t 16) (.c (.bool true)) (.t 19)⟩])
  (.cond (.t 20) (.seq (.reg [⟨(some 21), 336, none, .mv (.t 0)⟩,
    ⟨(some 22), 352, none, .nc (.t 21)⟩,
    ⟨(some 23), 368, none, .fa 1 (.t 22)⟩,
    ⟨none, 0, none, .st 1 (.t 23) (.c (.bool true))⟩])
  (.seq (.reg [⟨(some 2), 32, none, .mv (.c (.int .i64 0))⟩])
  .ret)) .skip))
  (.seq (.reg [⟨(some 25), 400, none, .mv (.t 3)⟩,
    ⟨(some 26), 416, none, .call (.c (.fn (.func 72) [] [])) [(.t 25)]⟩,
    ⟨(some 24), 384, none, .mv (.t 26)⟩,
    ⟨(some 27), 432, none, .ex (.t 24) 0⟩,
    ⟨(some 28), 448, none, .ex (.t 24) 1⟩,
    ⟨(some 4), 64, none, .mv (.t 27)⟩,
    ⟨(some 5), 80, none, .mv (.t 28)⟩])
  (.seq (.reg [⟨(some 29), 464, none, .mv (.t 4)⟩,
    ⟨(some 2), 32, none, .mv (.t 29)⟩])
  .ret)))))
theorem fits54 : fits Tryz.prog false Tryz.f54 1 30 [(2, none)] = some c54.er := by kernel_rfl
def eRw (w : List (List UInt8)) (bad : Bool) : List PV := [.sl 1 1 w.length (fl eStr w), .bool bad]
theorem fl_tail (x : List UInt8) (r : List (List UInt8)) : RowEq (x :: r).tail.length (fun i => fl eStr (x :: r) (1 + i)) (fl eStr r) := fun i _ => by
  simp only [fl]; rw [Nat.add_comm]; rfl
def wLens (w : List (List UInt8)) : Prop := w.length ≤ 65537 ∧ ∀ x ∈ w, x.length ≤ 65536
theorem wLens.tail {w : List (List UInt8)} (h : wLens w) : wLens w.tail := ⟨by have := h.1; rw [List.length_tail]; omega, fun x hx => h.2 x (List.mem_of_mem_tail hx)⟩
theorem wLens.head {w : List (List UInt8)} (h : wLens w) : (w.headD []).length ≤ 65536 := by
  cases w with
  | nil => exact Nat.zero_le _
  | cons x r => exact h.2 x (List.mem_cons_self ..)
set_option maxRecDepth 100000 in
theorem call53 (w : List (List UInt8)) (bad : Bool) : PureCall Tryz.prog 53 [.pt 0 0 0] [.box (eRw w bad)] ⟨.str (w.headD []), [.box (eRw w.tail (bad || w.isEmpty))], []⟩ := by
  refine pure_call mix Tryz.func53 fits53 rfl ?_
  cases w with
  | nil =>
    rw [show (bad || ([] : List (List UInt8)).isEmpty) = true by cases bad <;> rfl]
    conv => whnf
    refine ⟨trivial, fun hc => ?_, fun hc => (by cases hc)⟩
    conv => whnf
    exact retB
  | cons x r =>
    rw [show (bad || (x :: r).isEmpty) = bad by cases bad <;> rfl]
    have hq := fl_tail x r
    conv => whnf
    refine ⟨trivial, fun hc => ?_, fun hc => ?_⟩
    · simp only [bp, List.length_cons] at hc; omega
    conv => whnf
    refine ⟨?_, [], ?_⟩
    · exact g0
    conv => whnf
    refine ⟨rfl, ?_, ?_, trivial⟩ <;> exact ent
def numG (w : List (List UInt8)) : Int := (numF (w.headD [])).getD 0
def numB (w : List (List UInt8)) : Bool := (numF (w.headD [])).isNone
theorem num_test (s : List UInt8) : (bif bif (s.length : Int) == 0 then true else decide (10 < (s.length : Int)) then true else !(Lib.trimS s digT == [])) = (numF s).isNone := by
  have hn := num_none s
  cases h : numF s with
  | none =>
    rcases hn.1 h with h | h | h
    · rw [h]; rfl
    · rw [show ((s.length : Int) == 0) = false by rw [beq_eq_false_iff_ne]; omega, decide_eq_true (by omega)]; rfl
    · rw [show (Lib.trimS s digT == []) = false by rw [beq_eq_false_iff_ne]; exact h]; simp
  | some n =>
    have h0 : ¬ (s.length = 0 ∨ 10 < s.length ∨ Lib.trimS s digT ≠ []) := fun hh => by rw [hn.2 hh] at h; cases h
    have h1 : s.length ≠ 0 := fun e => h0 (.inl e)
    have h2 : ¬ 10 < s.length := fun e => h0 (.inr (.inl e))
    have h3 : Lib.trimS s digT = [] := Classical.byContradiction fun e => h0 (.inr (.inr e))
    rw [show ((s.length : Int) == 0) = false by rw [beq_eq_false_iff_ne]; omega, decide_eq_false (by omega), h3]; rfl
set_option maxRecDepth 100000 in
theorem call54 (w : List (List UInt8)) (bad : Bool) (hw : wLens w) : PureCall Tryz.prog 54 [.pt 0 0 0] [.box (eRw w bad)] ⟨.int .i64 (numG w), [.box (eRw w.tail (bad || numB w))], []⟩ := by
  have hs := hw.head
  have hE : w.isEmpty = true → numB w = true := fun h => by
    have : w = [] := by simpa using h
    subst this; rfl
  unfold numG
  unfold numB at hE ⊢
  refine pure_call mix Tryz.func54 fits54 rfl ?_
  conv => whnf
  refine ⟨_, fun _ => call53 w bad, ?_⟩
  generalize w.headD [] = s at hs hE ⊢
  generalize w.tail = r
  have hn := num_none s
  conv => whnf
  refine ⟨_, fun _ => call71 s (by omega), ?_⟩
  conv => whnf
  refine ⟨?_, fun hc => ?_, fun hc => ?_⟩
  · exact g0
  · rw [num_test] at hc
    have h0 : numF s = none := by simpa using hc
    rw [h0]
    rw [show (bad || (none : Option Int).isNone) = true by cases bad <;> rfl]
    conv => whnf
    exact retB
  · rw [num_test] at hc
    obtain ⟨n, h0⟩ : ∃ n, numF s = some n := by
      cases h : numF s with
      | none => rw [h] at hc; cases hc
      | some n => exact ⟨n, rfl⟩
    have hwe : w.isEmpty = false := by
      cases he : w.isEmpty with
      | false => rfl
      | true => have := hE he; rw [h0] at this; cases this
    rw [h0, hwe]
    rw [show (bad || (some n : Option Int).isNone) = bad by cases bad <;> rfl, show (bad || false) = bad by cases bad <;> rfl]
    conv => whnf
    refine ⟨_, fun _ => call72 s n h0, ?_⟩
    conv => whnf
    exact retB
end Pv
end Go.Proofs.YtknidebojogodaaGreatDoor
/- LAW 13, THE WALKS: a line's words as a condition. -/
set_option linter.unusedSimpArgs false
set_option linter.unusedVariables false
namespace Go.Proofs.YtknidebojogodaaGreatDoor
namespace Pv
def c37L1 : C := (.seq (.reg [⟨(some 29), 464, none, .bi false .lss (.t 28) (.c (.int .i64 5))⟩])
  (.seq (.cond (.t 29) .skip (.exit 0))
  (.seq (.block 1 (.seq (.reg [⟨(some 30), 480, none, .mv (.t 28)⟩,
    ⟨(some 31), 496, none, .ixa 5 1 false (.t 27) (.t 28)⟩,
    ⟨(some 8), 128, none, .mv (.t 30)⟩,
    ⟨(some 9), 144, none, .mv (.t 31)⟩])
  (.seq (.reg [⟨(some 32), 512, none, .mv (.t 8)⟩,
    ⟨(some 33), 528, none, .bi false .gtr (.t 32) (.c (.int .i64 0))⟩,
    ⟨(some 34), 544, none, .mv (.t 33)⟩,
    ⟨(some 35), 560, (some (34, true)), .mv (.t 9)⟩,
    ⟨(some 36), 576, (some (34, true)), .mv (.t 7)⟩,
    ⟨(some 37), 592, (some (34, true)), .bi false .eql (.t 35) (.t 36)⟩,
    ⟨(some 38), 608, none, .pick (.t 34) (.t 37) (.c (.bool false))⟩])
  (.cond (.t 38) (.reg [⟨(some 39), 624, none, .mv (.t 8)⟩,
    ⟨(some 40), 640, none, .fa 1 (.t 5)⟩,
    ⟨none, 0, none, .st 1 (.t 40) (.t 39)⟩]) .skip))))
  (.reg [⟨(some 41), 656, none, .bi false .add (.t 28) (.c (.int .i64 1))⟩,
    ⟨(some 28), 448, none, .mv (.t 41)⟩]))))
def c37 : C := (.seq (.reg [⟨(some 2), 32, none, .al [(.int .i64 0), (.int .i64 0), (.int .i64 0), (.int .i64 0), (.int .i64 0), (.int .i64 0), (.int .i64 0)]⟩,
    ⟨(some 3), 48, none, .mv (.c (.bool false))⟩])
  (.scope (.seq (.reg [⟨(some 10), 160, none, .mv (.t 0)⟩,
    ⟨(some 11), 176, none, .bd [(.nil 1), (.bool false)] [(0, 1, (.t 10))]⟩,
    ⟨(some 12), 192, none, .bx 2 (.t 11)⟩,
    ⟨(some 4), 64, none, .mv (.t 12)⟩])
  (.seq (.reg [⟨(some 13), 208, none, .bd [(.int .i64 0), (.int .i64 0)] [(1, 1, (.c (.int .i64 364)))]⟩,
    ⟨(some 14), 224, none, .bd [(.int .i64 0), (.int .i64 0), (.int .i64 0), (.int .i64 0), (.int .i64 0), (.int .i64 0), (.int .i64 0)] [(3, 2, (.t 13)), (6, 1, (.c (.int .i64 16777216)))]⟩,
    ⟨(some 5), 80, none, .al [(.int .i64 0), (.int .i64 0), (.int .i64 0), (.int .i64 0), (.int .i64 0), (.int .i64 0), (.int .i64 0)]⟩,
    ⟨none, 0, none, .st 7 (.t 5) (.t 14)⟩])
  (.seq (.reg [⟨(some 15), 240, none, .mkm [.s] [.b] false false⟩,
    ⟨(some 6), 96, none, .mv (.t 15)⟩])
  (.seq (.reg [⟨(some 16), 256, none, .mv (.t 4)⟩,
    ⟨(some 17), 272, none, .mv (.t 4)⟩,
    ⟨(some 18), 288, none, .call (.c (.fn (.func 53) [] [])) [(.t 17)]⟩,
    ⟨(some 19), 304, none, .bi false .neq (.t 18) (.c (.str [114, 97, 110, 107]))⟩,
    ⟨(some 20), 320, none, .nc (.t 16)⟩,
    ⟨(some 21), 336, none, .fa 1 (.t 20)⟩,
    ⟨none, 0, none, .st 1 (.t 21) (.t 19)⟩])
  (.seq (.reg [⟨(some 22), 352, none, .mv (.t 4)⟩,
    ⟨(some 23), 368, none, .call (.c (.fn (.func 54) [] [])) [(.t 22)]⟩,
    ⟨(some 24), 384, none, .fa 0 (.t 5)⟩,
    ⟨none, 0, none, .st 1 (.t 24) (.t 23)⟩])
  (.seq (.reg [⟨(some 25), 400, none, .mv (.t 4)⟩,
    ⟨(some 26), 416, none, .call (.c (.fn (.func 53) [] [])) [(.t 25)]⟩,
    ⟨(some 7), 112, none, .mv (.t 26)⟩])
  (.seq (.seq (.reg [⟨(some 27), 432, none, .ld 5 true (.c (.rp 1 [(.str []), (.str [108, 101, 97, 115, 116]), (.str [109, 111, 115, 116]), (.str [117, 112]), (.str [100, 111, 119, 110])]))⟩,
    ⟨(some 28), 448, none, .mv (.c (.int .i64 0))⟩])
  (.block 0 (.loop c37L1)))
  (.seq (.reg [⟨(some 42), 672, none, .mv (.t 4)⟩,
    ⟨(some 43), 688, none, .mv (.t 4)⟩,
    ⟨(some 44), 704, none, .nc (.t 43)⟩,
    ⟨(some 45), 720, none, .fa 1 (.t 44)⟩,
    ⟨(some 46), 736, none, .ld 1 false (.t 45)⟩,
    ⟨(some 47), 752, none, .mv (.t 46)⟩,
    ⟨(some 48), 768, (some (47, false)), .fa 1 (.t 5)⟩,
    ⟨(some 49), 784, (some (47, false)), .ld 1 false (.t 48)⟩,
    ⟨(some 50), 800, (some (47, false)), .bi false .eql (.t 49) (.c (.int .i64 0))⟩,
    ⟨(some 51), 816, none, .pick (.t 47) (.c (.bool true)) (.t 50)⟩,
    ⟨(some 52), 832, none, .nc (.t 42)⟩,
    ⟨(some 53), 848, none, .fa 1 (.t 52)⟩,
    ⟨none, 0, none, .st 1 (.t 53) (.t 51)⟩])
  (.seq (.reg [⟨(some 54), 864, none, .mv (.t 4)⟩,
    ⟨(some 55), 880, none, .call (.c (.fn (.func 54) [] [])) [(.t 54)]⟩,
    ⟨(some 56), 896, none, .fa 2 (.t 5)⟩,
    ⟨none, 0, none, .st 1 (.t 56) (.t 55)⟩])
  (.cut (.seq (.lab 0)
  (.seq (.seq (.reg [⟨(some 57), 912, none, .mv (.t 4)⟩,
    ⟨(some 58), 928, none, .nc (.t 57)⟩,
    ⟨(some 59), 944, none, .fa 1 (.t 58)⟩,
    ⟨(some 60), 960, none, .ld 1 false (.t 59)⟩,
    ⟨(some 61), 976, none, .mv (.t 60)⟩,
    ⟨(some 62), 992, (some (61, false)), .mv (.t 4)⟩,
    ⟨(some 63), 1008, (some (61, false)), .nc (.t 62)⟩,
    ⟨(some 64), 1024, (some (61, false)), .fa 0 (.t 63)⟩,
    ⟨(some 65), 1040, (some (61, false)), .ld 1 false (.t 64)⟩,
    ⟨(some 66), 1056, (some (61, false)), .len (.t 65)⟩,
    ⟨(some 67), 1072, (some (61, false)), .bi false .eql (.t 66) (.c (.int .i64 0))⟩,
    ⟨(some 68), 1088, none, .pick (.t 61) (.c (.bool true)) (.t 67)⟩])
  (.cond (.t 68) (.seq (.drw [⟨(some 69), 1104, none, .ld 7 true (.t 5)⟩,
    ⟨(some 70), 1120, none, .mv (.t 4)⟩,
    ⟨(some 71), 1136, none, .nc (.t 70)⟩,
    ⟨(some 72), 1152, none, .fa 1 (.t 71)⟩,
    ⟨(some 73), 1168, none, .ld 1 false (.t 72)⟩,
    ⟨(some 74), 1184, none, .un false .not (.t 73)⟩,
    ⟨none, 0, none, .st 7 (.t 2) (.t 69)⟩,
    ⟨(some 3), 48, none, .mv (.t 74)⟩]
    [(0, 1, 69), (0, 2, 69), (0, 3, 69), (0, 4, 69), (0, 5, 69), (1, 6, 70), (2, 6, 71), (3, 6, 72), (4, 6, 73), (5, 6, 74)])
  .ret) .skip))
  (.seq (.reg [⟨(some 75), 1200, none, .mv (.t 4)⟩,
    ⟨(some 76), 1216, none, .call (.c (.fn (.func 53) [] [])) [(.t 75)]⟩,
    ⟨(some 7), 112, none, .mv (.t 76)⟩])
  (.seq (.reg [⟨(some 77), 1232, none, .mv (.t 4)⟩,
    ⟨(some 78), 1248, none, .mv (.t 6)⟩,
    ⟨(some 79), 1264, none, .mv (.t 7)⟩,
    ⟨(some 80), 1280, none, .mpg [.s] [.b] false false false (.t 78) (.t 79)⟩,
    ⟨(some 81), 1296, none, .nc (.t 77)⟩,
    ⟨(some 82), 1312, none, .fa 1 (.t 81)⟩,
    ⟨none, 0, none, .st 1 (.t 82) (.t 80)⟩])
  (.seq (.reg [⟨(some 83), 1328, none, .mv (.t 6)⟩,
    ⟨(some 84), 1344, none, .mv (.t 7)⟩,
    ⟨none, 0, none, .mpu [.s] [.b] false false (.t 83) (.t 84) (.c (.bool true))⟩])
  (.seq (.seq (.reg [⟨(some 85), 1360, none, .mv (.t 7)⟩])
  (.block 2 (.seq (.reg [⟨(some 90), 1440, none, .bi false .eql (.t 85) (.c (.str [100, 97, 121, 115]))⟩,
    ⟨(some 89), 1424, none, .mv (.t 90)⟩])
  (.cond (.t 89) (.reg [⟨(some 91), 1456, none, .mv (.t 4)⟩,
    ⟨(some 92), 1472, none, .call (.c (.fn (.func 54) [] [])) [(.t 91)]⟩,
    ⟨(some 93), 1488, none, .mv (.t 4)⟩,
    ⟨(some 94), 1504, none, .call (.c (.fn (.func 54) [] [])) [(.t 93)]⟩,
    ⟨(some 95), 1520, none, .bd [(.int .i64 0), (.int .i64 0)] [(0, 1, (.t 92)), (1, 1, (.t 94))]⟩,
    ⟨(some 96), 1536, none, .fa 3 (.t 5)⟩,
    ⟨none, 0, none, .st 2 (.t 96) (.t 95)⟩]) (.seq (.reg [⟨(some 98), 1568, none, .bi false .eql (.t 85) (.c (.str [97, 98, 111, 118, 101]))⟩,
    ⟨(some 97), 1552, none, .mv (.t 98)⟩])
  (.cond (.t 97) (.reg [⟨(some 99), 1584, none, .mv (.t 4)⟩,
    ⟨(some 100), 1600, none, .call (.c (.fn (.func 54) [] [])) [(.t 99)]⟩,
    ⟨(some 101), 1616, none, .fa 5 (.t 5)⟩,
    ⟨none, 0, none, .st 1 (.t 101) (.t 100)⟩]) (.seq (.reg [⟨(some 103), 1648, none, .bi false .eql (.t 85) (.c (.str [98, 101, 108, 111, 119]))⟩,
    ⟨(some 102), 1632, none, .mv (.t 103)⟩])
  (.cond (.t 102) (.reg [⟨(some 104), 1664, none, .mv (.t 4)⟩,
    ⟨(some 105), 1680, none, .call (.c (.fn (.func 54) [] [])) [(.t 104)]⟩,
    ⟨(some 106), 1696, none, .fa 6 (.t 5)⟩,
    ⟨none, 0, none, .st 1 (.t 106) (.t 105)⟩]) (.reg [⟨(some 86), 1376, none, .mv (.t 4)⟩,
    ⟨(some 87), 1392, none, .nc (.t 86)⟩,
    ⟨(some 88), 1408, none, .fa 1 (.t 87)⟩,
    ⟨none, 0, none, .st 1 (.t 88) (.c (.bool true))⟩])))))))))
  (.gto 0)))))))))))))))))))
theorem fits37 : fits Tryz.prog false Tryz.f37 1 107 [(2, some (7, true)), (3, none)] = some c37.er := by kernel_rfl
section
variable {P : Program} {s : PS} {wr : Bool} {np n : Nat} {Q : Lv → PS → Prop} {b : C}
theorem LSem.jumps2 (hmix : P.follows .mixedOrders = true) {α : Type} (l : Nat) (r : C) (hr : C.from l b = some r) (I : α → Prop) (fl : α → List (Nat × PV)) (sl : α → List (Nat × SE)) (μ : α → Nat)
    (pass : ∀ x, I x → ∀ J : PS → Prop, (∀ s', (s'.ok ∧ ∃ x', I x' ∧ μ x' < μ x ∧ Ent np s' n (fl x') (sl x')) → J s') → vc (PureCall P) (LSem P wr np) r (jmps l J Q) (St n (fl x) (sl x)))
    (first : ∀ J : PS → Prop, (∀ x, I x → vc (PureCall P) (LSem P wr np) r (jmps l J Q) (St n (fl x) (sl x))) → vc (PureCall P) (LSem P wr np) b (jmps l J Q) s) : LSem P wr np (.scope b) Q s :=
  LSem.jumps hmix l r hr I fl sl μ (first _ fun x hx => pass x hx _ fun _ ⟨h0, x', h1, _, h3⟩ => ⟨h0, x', h1, h3⟩) fun x hx => pass x hx _ fun _ h => h
end
def partsG : Nat → Cd → Bool → Bool → Bool → Bool → List (List UInt8) → Cd × Bool
  | 0, c, bad, _, _, _, _ => (c, !bad)
  | n + 1, c, bad, d, a, b, w => if bad = true then (c, false) else match w with
    | [] => (c, true)
    | x :: r => if x = wDays then partsG n { c with f := numG r, u := numG r.tail } ((d || numB r) || numB r.tail) true a b r.tail.tail
      else if x = wAbove then partsG n { c with a := numG r } (a || numB r) d true b r.tail
      else if x = wBelow then partsG n { c with b := numG r } (b || numB r) d a true r.tail
      else (c, false)
def kU (w : List UInt8) : Nat → Int
  | 0 => 0
  | i + 1 => if 0 < i ∧ kindWords.getD i [] = w then i else kU w i
theorem kU_kind (w : List UInt8) : kU w 5 = kindOf w := by
  by_cases h1 : w = wLeast
  · subst h1; decide
  by_cases h2 : w = wMost
  · subst h2; decide
  by_cases h3 : w = wUp
  · subst h3; decide
  by_cases h4 : w = wDown
  · subst h4; decide
  unfold kindOf
  rw [if_neg h1, if_neg h2, if_neg h3, if_neg h4]
  unfold kU; rw [if_neg (fun h => h4 h.2.symm)]
  unfold kU; rw [if_neg (fun h => h3 h.2.symm)]
  unfold kU; rw [if_neg (fun h => h2 h.2.symm)]
  unfold kU; rw [if_neg (fun h => h1 h.2.symm)]
  unfold kU; rw [if_neg (fun h => absurd h.1 (Nat.lt_irrefl 0))]
  rfl
def headG (w : List (List UInt8)) : Cd × Bool :=
  (⟨numG w.tail, kindOf (w.tail.tail.headD []), numG w.tail.tail.tail, 0, 364, 0, 16777216⟩,
   (((!(w.headD [] == wRank)) || numB w.tail) || w.tail.tail.isEmpty || (kindOf (w.tail.tail.headD []) == 0)) || numB w.tail.tail.tail)
def condG (w : List (List UInt8)) : Cd × Bool := partsG (w.length + 1) (headG w).1 (headG w).2 false false false w.tail.tail.tail.tail
set_option maxRecDepth 100000 in
set_option maxHeartbeats 8000000 in
theorem call37 (w : List (List UInt8)) (hw : wLens w) : PureCall Tryz.prog 37 [.sl 1 1 w.length (fl eStr w)] [] ⟨.tup [.agg (eCd (condG w).1), .bool (condG w).2], [], []⟩ := by
  refine pure_call mix Tryz.func37 fits37 rfl ?_
  conv => whnf
  refine ⟨trivial, ?_⟩
  refine LSem.jumps2 (n := 107) mix (α := (Nat × Cd × Bool × Bool × Bool × Bool) × List (List UInt8) × (List PC → Bool) × (List PC → List PC)) 0 _ rfl
    (fun ⟨⟨n, c, bad, d, a, b⟩, w', h, f⟩ => wLens w' ∧ w'.length < n ∧ (f [.s wDays] = [.b d] ∧ f [.s wAbove] = [.b a] ∧ f [.s wBelow] = [.b b] ∧ ∀ k, ∃ z, f [.s k] = [.b z]) ∧ partsG n c bad d a b w' = condG w)
    (fun ⟨⟨n, c, bad, d, a, b⟩, w', h, f⟩ => [(2, .pt 32 0 0), (4, .pt 192 0 0), (5, .pt 80 0 0), (6, .rf none 240)])
    (fun ⟨⟨n, c, bad, d, a, b⟩, w', h, f⟩ => [(32, .box [.int .i64 0, .int .i64 0, .int .i64 0, .int .i64 0, .int .i64 0, .int .i64 0, .int .i64 0]), (80, .box (eCd c)), (192, .box (eRw w' bad)), (240, .box [.mpv [.s] [.b] false false h f])])
    (fun x => x.1.1) ?_ ?_
  · rintro ⟨⟨n, c, bad, d, a, b⟩, w', h, f⟩ ⟨h1, h2, ⟨h3, h4, h5, h6⟩, h7⟩ J hJ
    obtain ⟨n, rfl⟩ : ∃ m, n = m + 1 := ⟨n - 1, by omega⟩
    cases bad with
    | true =>
      rw [show condG w = (c, false) from h7.symm]
      conv => whnf
      refine ⟨?_, fun hc => ?_, fun hc => (by cases hc)⟩
      · exact g0
      conv => whnf
      refine ⟨rfl, ?_⟩
      conv => whnf
      refine ⟨?_, [], ?_⟩
      · exact g0
      conv => whnf
      refine ⟨rfl, ?_, trivial, trivial⟩
      exact ent
    | false =>
      cases w' with
      | nil =>
        rw [show condG w = (c, true) from h7.symm]
        conv => whnf
        refine ⟨?_, fun hc => ?_, fun hc => (by cases hc)⟩
        · exact g0
        conv => whnf
        refine ⟨rfl, ?_⟩
        conv => whnf
        refine ⟨?_, [], ?_⟩
        · exact g0
        conv => whnf
        refine ⟨rfl, ?_, trivial, trivial⟩
        exact ent
      | cons x r =>
        conv => whnf
        refine ⟨?_, fun hc => ?_, fun hc => ?_⟩
        · exact g0
        · simp only [bp, List.length_cons] at hc; omega
        clear hc
        conv => whnf
        have hN : PureCall Tryz.prog 53 [.pt 0 0 0] [.box (eRw (x :: r) false)] ⟨.str x, [.box (eRw r false)], []⟩ := call53 (x :: r) false
        have hr : wLens r := h1.tail
        have h2' : r.length < n := by rw [List.length_cons] at h2; omega
        have hne : ∀ u v : List UInt8, u ≠ v → eqK [.s u] [.s v] = false := fun u v h => by
          show (u == v && true) = false
          rw [beq_eq_false_iff_ne.2 h]; rfl
        have heq : ∀ u : List UInt8, eqK [.s u] [.s u] = true := fun u => by
          show (u == u && true) = true
          rw [beq_self_eq_true]; rfl
        refine ⟨_, fun _ => hN, ?_⟩
        by_cases e1 : x = wDays
        · subst e1
          have hB : boolP ((f [.s wDays]).headD default) = d := by rw [h3]; rfl
          conv => whnf
          refine ⟨?_, fun hc => ?_, fun hc => absurd hc (by decide)⟩
          · exact g0
          conv => whnf
          refine ⟨_, fun _ => call54 r (boolP ((f [.s wDays]).headD default)) hr, ?_⟩
          conv => whnf
          refine ⟨_, fun _ => call54 r.tail (boolP ((f [.s wDays]).headD default) || numB r) hr.tail, ?_⟩
          conv => whnf
          apply hJ
          refine ⟨?_, ((n, { c with f := numG r, u := numG r.tail }, (boolP ((f [.s wDays]).headD default) || numB r) || numB r.tail, true, a, b), r.tail.tail, (fun k => eqK k [.s wDays] || h k), (fun k => bif eqK k [.s wDays] then [.b true] else f k)), ⟨hr.tail.tail, ?_, ⟨?_, ?_, ?_, ?_⟩, ?_⟩, ?_, rfl, rfl, ?_, ?_⟩
          · exact g0
          · simp only [List.length_tail]; omega
          · dsimp only; rw [heq]; rfl
          · dsimp only; rw [hne _ _ (by decide)]; exact h4
          · dsimp only; rw [hne _ _ (by decide)]; exact h5
          · intro k
            dsimp only
            cases eqK [.s k] [.s wDays]
            · exact h6 k
            · exact ⟨true, rfl⟩
          · rw [hB, ← h7]; rfl
          · exact Nat.lt_succ_self n
          · exact ent
          · exact ent
        by_cases e2 : x = wAbove
        · subst e2
          have hB : boolP ((f [.s wAbove]).headD default) = a := by rw [h4]; rfl
          conv => whnf
          refine ⟨?_, fun hc => absurd hc (by decide), fun hc => ?_⟩
          · exact g0
          conv => whnf
          refine ⟨?_, fun hc => ?_, fun hc => absurd hc (by decide)⟩
          · exact g0
          conv => whnf
          refine ⟨_, fun _ => call54 r (boolP ((f [.s wAbove]).headD default)) hr, ?_⟩
          conv => whnf
          apply hJ
          refine ⟨?_, ((n, { c with a := numG r }, boolP ((f [.s wAbove]).headD default) || numB r, d, true, b), r.tail, (fun k => eqK k [.s wAbove] || h k), (fun k => bif eqK k [.s wAbove] then [.b true] else f k)), ⟨hr.tail, ?_, ⟨?_, ?_, ?_, ?_⟩, ?_⟩, ?_, rfl, rfl, ?_, ?_⟩
          · exact g0
          · simp only [List.length_tail]; omega
          · dsimp only; rw [hne _ _ (by decide)]; exact h3
          · dsimp only; rw [heq]; rfl
          · dsimp only; rw [hne _ _ (by decide)]; exact h5
          · intro k
            dsimp only
            cases eqK [.s k] [.s wAbove]
            · exact h6 k
            · exact ⟨true, rfl⟩
          · rw [hB, ← h7]; rfl
          · exact Nat.lt_succ_self n
          · exact ent
          · exact ent
        by_cases e3 : x = wBelow
        · subst e3
          have hB : boolP ((f [.s wBelow]).headD default) = b := by rw [h5]; rfl
          conv => whnf
          refine ⟨?_, fun hc => absurd hc (by decide), fun hc => ?_⟩
          · exact g0
          conv => whnf
          refine ⟨?_, fun hc => absurd hc (by decide), fun hc => ?_⟩
          · exact g0
          conv => whnf
          refine ⟨?_, fun hc => ?_, fun hc => absurd hc (by decide)⟩
          · exact g0
          conv => whnf
          refine ⟨_, fun _ => call54 r (boolP ((f [.s wBelow]).headD default)) hr, ?_⟩
          conv => whnf
          apply hJ
          refine ⟨?_, ((n, { c with b := numG r }, boolP ((f [.s wBelow]).headD default) || numB r, d, a, true), r.tail, (fun k => eqK k [.s wBelow] || h k), (fun k => bif eqK k [.s wBelow] then [.b true] else f k)), ⟨hr.tail, ?_, ⟨?_, ?_, ?_, ?_⟩, ?_⟩, ?_, rfl, rfl, ?_, ?_⟩
          · exact g0
          · simp only [List.length_tail]; omega
          · dsimp only; rw [hne _ _ (by decide)]; exact h3
          · dsimp only; rw [hne _ _ (by decide)]; exact h4
          · dsimp only; rw [heq]; rfl
          · intro k
            dsimp only
            cases eqK [.s k] [.s wBelow]
            · exact h6 k
            · exact ⟨true, rfl⟩
          · rw [hB, ← h7]; rfl
          · exact Nat.lt_succ_self n
          · exact ent
          · exact ent
        have hG : (c, false) = condG w := by
          rw [← h7]; unfold partsG; dsimp only; rw [if_neg (by decide), if_neg e1, if_neg e2, if_neg e3]
        conv => whnf
        refine ⟨?_, fun hc => absurd (eq_of_beq hc) e1, fun hc => ?_⟩
        · exact g0
        conv => whnf
        refine ⟨?_, fun hc => absurd (eq_of_beq hc) e2, fun hc => ?_⟩
        · exact g0
        conv => whnf
        refine ⟨?_, fun hc => absurd (eq_of_beq hc) e3, fun hc => ?_⟩
        · exact g0
        conv => whnf
        apply hJ
        refine ⟨?_, ((n, c, true, d, a, b), r, (fun k => eqK k [.s x] || h k), (fun k => bif eqK k [.s x] then [.b true] else f k)), ⟨hr, h2', ⟨?_, ?_, ?_, ?_⟩, ?_⟩, ?_, rfl, rfl, ?_, ?_⟩
        · exact g0
        · dsimp only; rw [hne _ _ (fun e => e1 e.symm)]; exact h3
        · dsimp only; rw [hne _ _ (fun e => e2 e.symm)]; exact h4
        · dsimp only; rw [hne _ _ (fun e => e3 e.symm)]; exact h5
        · intro k
          dsimp only
          cases eqK [.s k] [.s x]
          · exact h6 k
          · exact ⟨true, rfl⟩
        · rw [← hG]; cases n <;> rfl
        · exact Nat.lt_succ_self n
        · exact ent
        · exact ent
  · intro J hJ
    have hw1 := hw.tail
    have hw2 := hw1.tail
    have hw3 := hw2.tail
    conv => whnf
    refine ⟨_, fun _ => call53 w false, ?_⟩
    conv => whnf
    refine ⟨_, fun _ => call54 w.tail (!(w.headD [] == wRank)) hw1, ?_⟩
    conv => whnf
    refine ⟨_, fun _ => call53 w.tail.tail ((!(w.headD [] == wRank)) || numB w.tail), ?_⟩
    conv => whnf
    refine ⟨?_, ?_⟩
    · exact g0
    refine LSem.loop (n := 107) mix (α := Nat) (fun i => i ≤ 5)
      (fun i => [(2, .pt 32 0 0), (4, .pt 192 0 0), (5, .pt 80 0 0), (6, .rf none 240), (7, .str (w.tail.tail.headD [])), (27, .agg [.str [], .str wLeast, .str wMost, .str wUp, .str wDown]), (28, .int .i64 i)])
      (fun i => [(32, .box [.int .i64 0, .int .i64 0, .int .i64 0, .int .i64 0, .int .i64 0, .int .i64 0, .int .i64 0]), (80, .box (eCd ⟨numG w.tail, kU (w.tail.tail.headD []) i, 0, 0, 364, 0, 16777216⟩)), (192, .box (eRw w.tail.tail.tail (((!(w.headD [] == wRank)) || numB w.tail) || w.tail.tail.isEmpty))), (240, .box [.mpv [.s] [.b] false false (fun _ => false) (fun _ => [.b false])])]) (fun i => 5 - i) 0 ?_ ?_ ?_
    · exact Nat.zero_le _
    · refine ⟨rfl, rfl, ?_, ?_⟩ <;> exact ent
    · intro i hi
      have hcs : i = 0 ∨ i = 1 ∨ i = 2 ∨ i = 3 ∨ i = 4 ∨ i = 5 := by omega
      rcases hcs with rfl | rfl | rfl | rfl | rfl | rfl
      · conv => whnf
        refine ⟨trivial, fun hc => ?_, fun hc => (by cases hc)⟩
        conv => whnf
        refine ⟨?_, fun hc => (by cases hc), fun hc => ?_⟩
        · exact g0
        conv => whnf
        refine ⟨?_, 1, by omega, by omega, rfl, rfl, ?_, ?_⟩
        · exact g0
        · exact ent
        · exact ent
      · conv => whnf
        refine ⟨trivial, fun hc => ?_, fun hc => (by cases hc)⟩
        conv => whnf
        refine ⟨?_, fun hc => ?_, fun hc => ?_⟩
        · exact g0
        · have hk : (1 : Int) = kU (w.tail.tail.headD []) 2 := by
            have he : wLeast = w.tail.tail.headD [] := eq_of_beq hc
            unfold kU; rw [if_pos ⟨by decide, he⟩]; rfl
          conv => whnf
          refine ⟨?_, 2, by omega, by omega, rfl, rfl, ?_, ?_⟩
          · exact g0
          · exact ent
          · exact ent
        · have hk : kU (w.tail.tail.headD []) 1 = kU (w.tail.tail.headD []) 2 := by
            have he : ¬ wLeast = w.tail.tail.headD [] := ne_of_beq_false hc
            rw [show kU (w.tail.tail.headD []) 2 = if 0 < 1 ∧ kindWords.getD 1 [] = w.tail.tail.headD [] then 1 else kU (w.tail.tail.headD []) 1 from rfl, if_neg (fun h => he h.2)]
          conv => whnf
          refine ⟨?_, 2, by omega, by omega, rfl, rfl, ?_, ?_⟩
          · exact g0
          · exact ent
          · exact ent
      · conv => whnf
        refine ⟨trivial, fun hc => ?_, fun hc => (by cases hc)⟩
        conv => whnf
        refine ⟨?_, fun hc => ?_, fun hc => ?_⟩
        · exact g0
        · have hk : (2 : Int) = kU (w.tail.tail.headD []) 3 := by
            have he : wMost = w.tail.tail.headD [] := eq_of_beq hc
            unfold kU; rw [if_pos ⟨by decide, he⟩]; rfl
          conv => whnf
          refine ⟨?_, 3, by omega, by omega, rfl, rfl, ?_, ?_⟩
          · exact g0
          · exact ent
          · exact ent
        · have hk : kU (w.tail.tail.headD []) 2 = kU (w.tail.tail.headD []) 3 := by
            have he : ¬ wMost = w.tail.tail.headD [] := ne_of_beq_false hc
            rw [show kU (w.tail.tail.headD []) 3 = if 0 < 2 ∧ kindWords.getD 2 [] = w.tail.tail.headD [] then 2 else kU (w.tail.tail.headD []) 2 from rfl, if_neg (fun h => he h.2)]
          conv => whnf
          refine ⟨?_, 3, by omega, by omega, rfl, rfl, ?_, ?_⟩
          · exact g0
          · exact ent
          · exact ent
      · conv => whnf
        refine ⟨trivial, fun hc => ?_, fun hc => (by cases hc)⟩
        conv => whnf
        refine ⟨?_, fun hc => ?_, fun hc => ?_⟩
        · exact g0
        · have hk : (3 : Int) = kU (w.tail.tail.headD []) 4 := by
            have he : wUp = w.tail.tail.headD [] := eq_of_beq hc
            unfold kU; rw [if_pos ⟨by decide, he⟩]; rfl
          conv => whnf
          refine ⟨?_, 4, by omega, by omega, rfl, rfl, ?_, ?_⟩
          · exact g0
          · exact ent
          · exact ent
        · have hk : kU (w.tail.tail.headD []) 3 = kU (w.tail.tail.headD []) 4 := by
            have he : ¬ wUp = w.tail.tail.headD [] := ne_of_beq_false hc
            rw [show kU (w.tail.tail.headD []) 4 = if 0 < 3 ∧ kindWords.getD 3 [] = w.tail.tail.headD [] then 3 else kU (w.tail.tail.headD []) 3 from rfl, if_neg (fun h => he h.2)]
          conv => whnf
          refine ⟨?_, 4, by omega, by omega, rfl, rfl, ?_, ?_⟩
          · exact g0
          · exact ent
          · exact ent
      · conv => whnf
        refine ⟨trivial, fun hc => ?_, fun hc => (by cases hc)⟩
        conv => whnf
        refine ⟨?_, fun hc => ?_, fun hc => ?_⟩
        · exact g0
        · have hk : (4 : Int) = kU (w.tail.tail.headD []) 5 := by
            have he : wDown = w.tail.tail.headD [] := eq_of_beq hc
            unfold kU; rw [if_pos ⟨by decide, he⟩]; rfl
          conv => whnf
          refine ⟨?_, 5, by omega, by omega, rfl, rfl, ?_, ?_⟩
          · exact g0
          · exact ent
          · exact ent
        · have hk : kU (w.tail.tail.headD []) 4 = kU (w.tail.tail.headD []) 5 := by
            have he : ¬ wDown = w.tail.tail.headD [] := ne_of_beq_false hc
            rw [show kU (w.tail.tail.headD []) 5 = if 0 < 4 ∧ kindWords.getD 4 [] = w.tail.tail.headD [] then 4 else kU (w.tail.tail.headD []) 4 from rfl, if_neg (fun h => he h.2)]
          conv => whnf
          refine ⟨?_, 5, by omega, by omega, rfl, rfl, ?_, ?_⟩
          · exact g0
          · exact ent
          · exact ent
      · conv => whnf
        refine ⟨trivial, fun hc => (by cases hc), fun hc => ?_⟩
        rw [kU_kind]
        conv => whnf
        refine ⟨_, fun _ => call54 w.tail.tail.tail (bif ((!(w.headD [] == wRank)) || numB w.tail) || w.tail.tail.isEmpty then true else kindOf (w.tail.tail.headD []) == 0) hw3, ?_⟩
        conv => whnf
        refine ⟨?_, ?_⟩
        · exact g0
        refine LSem.cut mix (fl := [(2, .pt 32 0 0), (4, .pt 192 0 0), (5, .pt 80 0 0), (6, .rf none 240)])
          (sl := [(32, .box [.int .i64 0, .int .i64 0, .int .i64 0, .int .i64 0, .int .i64 0, .int .i64 0, .int .i64 0]), (80, .box (eCd (headG w).1)), (192, .box (eRw w.tail.tail.tail.tail (headG w).2)), (240, .box [.mpv [.s] [.b] false false (fun _ => false) (fun _ => [.b false])])]) ?_
          (hJ ((w.length + 1, (headG w).1, (headG w).2, false, false, false), w.tail.tail.tail.tail, _, _) ⟨hw3.tail, by simp only [List.length_tail]; omega, ⟨rfl, rfl, rfl, fun k => ⟨false, rfl⟩⟩, rfl⟩)
        have hB : ((bif ((!(w.headD [] == wRank)) || numB w.tail) || w.tail.tail.isEmpty then true else kindOf (w.tail.tail.headD []) == 0) || numB w.tail.tail.tail) = (headG w).2 := by
          unfold headG
          dsimp only
          cases ((!(w.headD [] == wRank)) || numB w.tail) || w.tail.tail.isEmpty <;> rfl
        rw [hB]
        refine ⟨rfl, rfl, ?_, ?_⟩ <;> exact ent
end Pv
end Go.Proofs.YtknidebojogodaaGreatDoor
/- LAW 13, THE WALKS: the first error of a condition, of conditions. -/
set_option linter.unusedSimpArgs false
set_option linter.unusedVariables false
namespace Go.Proofs.YtknidebojogodaaGreatDoor
namespace Pv
def c56 : C := (.seq (.reg [⟨(some 4), 64, none, .mv (.c (.bool false))⟩])
  (.seq (.reg [⟨(some 5), 80, none, .mv (.t 0)⟩,
    ⟨(some 6), 96, none, .bi false .geq (.t 5) (.c (.int .i64 0))⟩,
    ⟨(some 7), 112, none, .mv (.t 6)⟩,
    ⟨(some 8), 128, (some (7, true)), .mv (.t 0)⟩,
    ⟨(some 9), 144, (some (7, true)), .mv (.t 1)⟩,
    ⟨(some 10), 160, (some (7, true)), .bi false .leq (.t 8) (.t 9)⟩,
    ⟨(some 11), 176, none, .pick (.t 7) (.t 10) (.c (.bool false))⟩,
    ⟨(some 4), 64, none, .mv (.t 11)⟩])
  .ret))
theorem fits56 : fits Tryz.prog false Tryz.f56 2 12 [(4, none)] = some c56.er := by kernel_rfl
def c73 : C := (.seq (.reg [⟨(some 2), 32, none, .mv (.c (.bool false))⟩])
  (.seq (.reg [⟨(some 3), 48, none, .mv (.t 0)⟩,
    ⟨(some 4), 64, none, .call (.c (.fn (.func 56) [] [])) [(.t 3), (.c (.int .i64 364))]⟩,
    ⟨(some 2), 32, none, .mv (.t 4)⟩])
  .ret))
theorem fits73 : fits Tryz.prog false Tryz.f73 1 5 [(2, none)] = some c73.er := by kernel_rfl
def c57 : C := (.seq (.reg [⟨(some 1), 16, none, .bx 2 (.t 0)⟩,
    ⟨(some 2), 32, none, .mv (.c (.bool false))⟩])
  (.seq (.reg [⟨(some 3), 48, none, .fa 0 (.t 1)⟩,
    ⟨(some 4), 64, none, .ld 1 false (.t 3)⟩,
    ⟨(some 5), 80, none, .call (.c (.fn (.func 73) [] [])) [(.t 4)]⟩,
    ⟨(some 6), 96, none, .mv (.t 5)⟩,
    ⟨(some 7), 112, (some (6, true)), .fa 1 (.t 1)⟩,
    ⟨(some 8), 128, (some (6, true)), .ld 1 false (.t 7)⟩,
    ⟨(some 9), 144, (some (6, true)), .call (.c (.fn (.func 73) [] [])) [(.t 8)]⟩,
    ⟨(some 10), 160, none, .pick (.t 6) (.t 9) (.c (.bool false))⟩,
    ⟨(some 2), 32, none, .mv (.t 10)⟩])
  .ret))
theorem fits57 : fits Tryz.prog false Tryz.f57 1 11 [(2, none)] = some c57.er := by kernel_rfl
def c55 : C := (.seq (.reg [⟨(some 2), 32, none, .mv (.c (.bool false))⟩])
  (.seq (.reg [⟨(some 3), 48, none, .mv (.t 0)⟩,
    ⟨(some 4), 64, none, .call (.c (.fn (.func 56) [] [])) [(.t 3), (.c (.int .i64 16777216))]⟩,
    ⟨(some 2), 32, none, .mv (.t 4)⟩])
  .ret))
theorem fits55 : fits Tryz.prog false Tryz.f55 1 5 [(2, none)] = some c55.er := by kernel_rfl
def c38 : C := (.seq (.reg [⟨(some 1), 16, none, .bx 7 (.t 0)⟩,
    ⟨(some 2), 32, none, .mv (.c (.int .i64 0))⟩])
  (.seq (.reg [⟨(some 3), 48, none, .mv (.c (.fn (.func 55) [] []))⟩])
  (.seq (.block 0 (.seq (.reg [⟨(some 5), 80, none, .fa 0 (.t 1)⟩,
    ⟨(some 6), 96, none, .ld 1 false (.t 5)⟩,
    ⟨(some 7), 112, none, .bi false .lss (.t 6) (.c (.int .i64 1))⟩,
    ⟨(some 8), 128, none, .mv (.t 7)⟩,
    ⟨(some 9), 144, (some (8, false)), .fa 0 (.t 1)⟩,
    ⟨(some 10), 160, (some (8, false)), .ld 1 false (.t 9)⟩,
    ⟨(some 11), 176, (some (8, false)), .bi false .gtr (.t 10) (.c (.int .i64 9))⟩,
    ⟨(some 12), 192, none, .pick (.t 8) (.c (.bool true)) (.t 11)⟩,
    ⟨(some 4), 64, none, .mv (.t 12)⟩])
  (.cond (.t 4) (.seq (.reg [⟨(some 2), 32, none, .mv (.c (.int .i64 1))⟩])
  .ret) (.seq (.reg [⟨(some 14), 224, none, .fa 1 (.t 1)⟩,
    ⟨(some 15), 240, none, .ld 1 false (.t 14)⟩,
    ⟨(some 16), 256, none, .bi false .lss (.t 15) (.c (.int .i64 1))⟩,
    ⟨(some 17), 272, none, .mv (.t 16)⟩,
    ⟨(some 18), 288, (some (17, false)), .fa 1 (.t 1)⟩,
    ⟨(some 19), 304, (some (17, false)), .ld 1 false (.t 18)⟩,
    ⟨(some 20), 320, (some (17, false)), .bi false .gtr (.t 19) (.c (.int .i64 4))⟩,
    ⟨(some 21), 336, none, .pick (.t 17) (.c (.bool true)) (.t 20)⟩,
    ⟨(some 13), 208, none, .mv (.t 21)⟩])
  (.cond (.t 13) (.seq (.reg [⟨(some 2), 32, none, .mv (.c (.int .i64 5))⟩])
  .ret) (.seq (.reg [⟨(some 23), 368, none, .fa 2 (.t 1)⟩,
    ⟨(some 24), 384, none, .ld 1 false (.t 23)⟩,
    ⟨(some 25), 400, none, .call (.c (.fn (.func 56) [] [])) [(.t 24), (.c (.int .i64 1073741824))]⟩,
    ⟨(some 26), 416, none, .un false .not (.t 25)⟩,
    ⟨(some 27), 432, none, .mv (.t 26)⟩,
    ⟨(some 28), 448, (some (27, false)), .fa 3 (.t 1)⟩,
    ⟨(some 29), 464, (some (27, false)), .ld 2 true (.t 28)⟩,
    ⟨(some 30), 480, (some (27, false)), .call (.c (.fn (.func 57) [] [])) [(.t 29)]⟩,
    ⟨(some 31), 496, (some (27, false)), .un false .not (.t 30)⟩,
    ⟨(some 32), 512, none, .pick (.t 27) (.c (.bool true)) (.t 31)⟩,
    ⟨(some 33), 528, none, .mv (.t 32)⟩,
    ⟨(some 34), 544, (some (33, false)), .mv (.t 3)⟩,
    ⟨(some 35), 560, (some (33, false)), .fa 5 (.t 1)⟩,
    ⟨(some 36), 576, (some (33, false)), .ld 1 false (.t 35)⟩,
    ⟨(some 37), 592, (some (33, false)), .call (.t 34) [(.t 36)]⟩,
    ⟨(some 38), 608, (some (33, false)), .un false .not (.t 37)⟩,
    ⟨(some 39), 624, none, .pick (.t 33) (.c (.bool true)) (.t 38)⟩,
    ⟨(some 40), 640, none, .mv (.t 39)⟩,
    ⟨(some 41), 656, (some (40, false)), .mv (.t 3)⟩,
    ⟨(some 42), 672, (some (40, false)), .fa 6 (.t 1)⟩,
    ⟨(some 43), 688, (some (40, false)), .ld 1 false (.t 42)⟩,
    ⟨(some 44), 704, (some (40, false)), .call (.t 41) [(.t 43)]⟩,
    ⟨(some 45), 720, (some (40, false)), .un false .not (.t 44)⟩,
    ⟨(some 46), 736, none, .pick (.t 40) (.c (.bool true)) (.t 45)⟩,
    ⟨(some 47), 752, none, .mv (.t 46)⟩,
    ⟨(some 48), 768, (some (47, false)), .fa 5 (.t 1)⟩,
    ⟨(some 49), 784, (some (47, false)), .ld 1 false (.t 48)⟩,
    ⟨(some 50), 800, (some (47, false)), .fa 6 (.t 1)⟩,
    ⟨(some 51), 816, (some (47, false)), .ld 1 false (.t 50)⟩,
    ⟨(some 52), 832, (some (47, false)), .bi false .gtr (.t 49) (.t 51)⟩,
    ⟨(some 53), 848, none, .pick (.t 47) (.c (.bool true)) (.t 52)⟩,
    ⟨(some 22), 352, none, .mv (.t 53)⟩])
  (.cond (.t 22) (.seq (.reg [⟨(some 2), 32, none, .mv (.c (.int .i64 1))⟩])
  .ret) .skip)))))))
  (.seq (.reg [⟨(some 2), 32, none, .mv (.c (.int .i64 0))⟩])
  .ret))))
theorem fits38 : fits Tryz.prog false Tryz.f38 1 54 [(2, none)] = some c38.er := by kernel_rfl
def c24L1 : C := (.seq (.reg [⟨(some 12), 192, none, .bi false .lss (.t 11) (.t 10)⟩])
  (.seq (.cond (.t 12) .skip (.exit 0))
  (.seq (.block 1 (.seq (.reg [⟨(some 13), 208, none, .ia 7 (.t 9) (.t 11)⟩,
    ⟨(some 14), 224, none, .ld 7 true (.t 13)⟩,
    ⟨(some 4), 64, none, .al [(.int .i64 0), (.int .i64 0), (.int .i64 0), (.int .i64 0), (.int .i64 0), (.int .i64 0), (.int .i64 0)]⟩,
    ⟨none, 0, none, .st 7 (.t 4) (.t 14)⟩])
  (.seq (.reg [⟨(some 15), 240, none, .ld 7 true (.t 4)⟩,
    ⟨(some 16), 256, none, .call (.c (.fn (.func 38) [] [])) [(.t 15)]⟩,
    ⟨(some 5), 80, none, .mv (.t 16)⟩])
  (.seq (.reg [⟨(some 17), 272, none, .mv (.t 5)⟩,
    ⟨(some 18), 288, none, .bi false .neq (.t 17) (.c (.int .i64 0))⟩])
  (.cond (.t 18) (.seq (.reg [⟨(some 19), 304, none, .mv (.t 5)⟩,
    ⟨(some 2), 32, none, .mv (.t 19)⟩])
  .ret) .skip)))))
  (.reg [⟨(some 20), 320, none, .bi false .add (.t 11) (.c (.int .i64 1))⟩,
    ⟨(some 11), 176, none, .mv (.t 20)⟩]))))
def c24 : C := (.seq (.reg [⟨(some 2), 32, none, .mv (.c (.int .i64 0))⟩])
  (.seq (.seq (.reg [⟨(some 6), 96, none, .mv (.t 0)⟩,
    ⟨(some 7), 112, none, .len (.t 6)⟩,
    ⟨(some 8), 128, none, .bi false .gtr (.t 7) (.c (.int .i64 200))⟩])
  (.cond (.t 8) (.seq (.reg [⟨(some 2), 32, none, .mv (.c (.int .i64 10))⟩])
  .ret) .skip))
  (.seq (.seq (.reg [⟨(some 9), 144, none, .mv (.t 0)⟩,
    ⟨(some 10), 160, none, .len (.t 9)⟩,
    ⟨(some 11), 176, none, .mv (.c (.int .i64 0))⟩])
  (.block 0 (.loop c24L1)))
  (.seq (.reg [⟨(some 2), 32, none, .mv (.c (.int .i64 0))⟩])
  .ret))))
theorem fits24 : fits Tryz.prog false Tryz.f24 1 21 [(2, none)] = some c24.er := by kernel_rfl
def wi (n m : Int) : Bool := decide (0 ≤ n) && decide (n ≤ m)
theorem call56 (n m : Int) : PureCall Tryz.prog 56 [.int .i64 n, .int .i64 m] [] ⟨.bool (wi n m), [], []⟩ := by
  refine pure_call mix Tryz.func56 fits56 rfl ?_
  conv => whnf
  refine ⟨?_, [], ?_⟩
  · exact g0
  conv => whnf
  refine ⟨rfl, ?_, trivial, trivial⟩
  show PLe _ _ _ _
  conv => whnf
  unfold wi
  cases decide (0 ≤ n) <;> rfl
theorem call73 (n : Int) : PureCall Tryz.prog 73 [.int .i64 n] [] ⟨.bool (wi n 364), [], []⟩ := by
  refine pure_call mix Tryz.func73 fits73 rfl ?_
  conv => whnf
  refine ⟨_, fun _ => call56 n 364, ?_⟩
  conv => whnf
  exact ret
theorem call57 (f u : Int) : PureCall Tryz.prog 57 [.agg [.int .i64 f, .int .i64 u]] [] ⟨.bool (wi f 364 && wi u 364), [], []⟩ := by
  refine pure_call mix Tryz.func57 fits57 rfl ?_
  conv => whnf
  refine ⟨_, fun _ => call73 f, ?_⟩
  conv => whnf
  refine ⟨_, fun _ => call73 u, ?_⟩
  conv => whnf
  refine ⟨?_, [], ?_⟩
  · exact g0
  conv => whnf
  refine ⟨rfl, ?_, trivial, trivial⟩
  show PLe _ _ _ _
  conv => whnf
  cases wi f 364 <;> rfl
theorem call55 (n : Int) : PureCall Tryz.prog 55 [.int .i64 n] [] ⟨.bool (wi n 16777216), [], []⟩ := by
  refine pure_call mix Tryz.func55 fits55 rfl ?_
  conv => whnf
  refine ⟨_, fun _ => call56 n 16777216, ?_⟩
  conv => whnf
  exact ret
theorem wi_iff (n m : Int) : wi n m = true ↔ 0 ≤ n ∧ n ≤ m := by simp [wi]
theorem bad_test (c : Cd) : (bif bif bif bif !wi c.v 1073741824 then true else !(wi c.f 364 && wi c.u 364) then true else !wi c.a 16777216 then true else !wi c.b 16777216 then true else decide (c.b < c.a)) = decide (badC c) := by
  have h1 := wi_iff c.v 1073741824
  have h2 := wi_iff c.f 364
  have h3 := wi_iff c.u 364
  have h4 := wi_iff c.a 16777216
  have h5 := wi_iff c.b 16777216
  rw [Bool.eq_iff_iff, decide_eq_true_iff]
  unfold badC
  rw [← h1, ← h2, ← h3, ← h4, ← h5]
  cases wi c.v 1073741824 <;> cases wi c.f 364 <;> cases wi c.u 364 <;> cases wi c.a 16777216 <;> cases wi c.b 16777216 <;> simp
set_option maxRecDepth 100000 in
theorem call38 (c : Cd) : PureCall Tryz.prog 38 [.agg (eCd c)] [] ⟨.int .i64 (oneC c), [], []⟩ := by
  refine pure_call mix Tryz.func38 fits38 rfl ?_
  unfold oneC
  conv => whnf
  refine ⟨?_, fun hc => ?_, fun hc => ?_⟩
  · exact g0
  · simp only [bp] at hc
    rw [if_pos (by omega)]
    conv => whnf
    exact ret
  simp only [bp] at hc
  rw [if_neg (by omega)]
  conv => whnf
  refine ⟨?_, fun hc => ?_, fun hc => ?_⟩
  · exact g0
  · simp only [bp] at hc
    rw [if_pos (by omega)]
    conv => whnf
    exact ret
  simp only [bp] at hc
  rw [if_neg (by omega)]
  conv => whnf
  refine ⟨_, fun _ => call56 c.v 1073741824, ?_⟩
  conv => whnf
  refine ⟨_, fun _ => call57 c.f c.u, ?_⟩
  conv => whnf
  refine ⟨_, fun _ => call55 c.a, ?_⟩
  conv => whnf
  refine ⟨_, fun _ => call55 c.b, ?_⟩
  conv => whnf
  refine ⟨?_, fun hc => ?_, fun hc => ?_⟩
  · exact g0
  · have hb : badC c := of_decide_eq_true ((bad_test c).symm.trans hc)
    rw [if_pos hb]
    conv => whnf
    exact ret
  · have hb : ¬ badC c := of_decide_eq_false ((bad_test c).symm.trans hc)
    rw [if_neg hb]
    conv => whnf
    exact ret
def allC : List Cd → Int
  | [] => 0
  | c :: l => if oneC c ≠ 0 then oneC c else allC l
def limC (l : List Cd) : Int := if 200 < l.length then 10 else allC l
theorem allC_drop {l : List Cd} {i : Nat} (h : i < l.length) : allC (l.drop i) = if oneC (l.getD i default) ≠ 0 then oneC (l.getD i default) else allC (l.drop (i + 1)) := by
  rw [List.drop_eq_getElem_cons h]
  have : l.getD i default = l[i] := by simp [List.getD, h]
  rw [this]; rfl
set_option maxRecDepth 100000 in
theorem call24 (τ : Nat) (l : List Cd) : PureCall Tryz.prog 24 [.sl τ 7 l.length (fl eCd l)] [] ⟨.int .i64 (limC l), [], []⟩ := by
  refine pure_call mix Tryz.func24 fits24 rfl ?_
  unfold limC
  conv => whnf
  refine ⟨?_, fun hc => ?_, fun hc => ?_⟩
  · exact g0
  · simp only [bp] at hc
    rw [if_pos (by omega)]
    conv => whnf
    exact ret
  simp only [bp] at hc
  rw [if_neg (by omega)]
  conv => whnf
  refine ⟨trivial, ?_⟩
  refine LSem.loop (n := 21) mix (α := Nat) (fun i => i ≤ l.length ∧ allC (l.drop i) = allC l)
    (fun i => [(9, .sl τ 7 l.length (fl eCd l)), (10, .int .i64 l.length), (11, .int .i64 i)])
    (fun i => []) (fun i => l.length - i) 0 ?_ ?_ ?_
  · exact ⟨Nat.zero_le _, rfl⟩
  · refine ⟨rfl, rfl, ?_, ?_⟩ <;> exact ent
  · rintro i ⟨hi, hp⟩
    have hj : ((i : Int)).toNat = i := by omega
    conv => whnf
    refine ⟨trivial, fun hc => ?_, fun hc => ?_⟩
    · replace hc := of_decide_eq_true hc
      have hlt : i < l.length := by
        have h : (i : Int) < l.length := hc
        omega
      rw [allC_drop hlt] at hp
      conv => whnf
      rw [hj]
      refine ⟨_, fun _ => call38 (l.getD i default), ?_⟩
      generalize oneC (l.getD i default) = e at hp ⊢
      conv => whnf
      refine ⟨?_, fun h => ?_, fun h => ?_⟩
      · exact g0
      · simp only [bp] at h
        rw [if_pos h] at hp
        rw [← hp]
        conv => whnf
        exact ret
      · simp only [bp] at h
        rw [if_neg (by omega)] at hp
        conv => whnf
        refine ⟨?_, i + 1, ⟨hlt, hp⟩, by omega, rfl, rfl, ?_, ?_⟩
        · exact g0
        · exact ent
        · exact ent
    · replace hc := of_decide_eq_false hc
      have hk : i = l.length := by
        have h : ¬ (i : Int) < l.length := hc
        omega
      subst hk
      rw [List.drop_length] at hp
      rw [← show (0 : Int) = allC l from hp]
      conv => whnf
      exact ret
end Pv
end Go.Proofs.YtknidebojogodaaGreatDoor
/- LAW 13, THE WALKS: a text's lines that are conditions. -/
set_option linter.unusedSimpArgs false
set_option linter.unusedVariables false
namespace Go.Proofs.YtknidebojogodaaGreatDoor
namespace Pv
def c11 : C := (.seq (.reg [⟨(some 2), 32, none, .mv (.c (.nil 1))⟩])
  (.seq (.reg [⟨(some 3), 48, none, .mv (.t 0)⟩,
    ⟨(some 4), 64, none, .call (.c (.fn (.func 31) [] [])) [(.t 3), (.c (.fn (.func 32) [] []))]⟩,
    ⟨(some 2), 32, none, .mv (.t 4)⟩])
  .ret))
theorem fits11 : fits Tryz.prog false Tryz.f11 1 5 [(2, none)] = some c11.er := by kernel_rfl
def c36L1 : C := (.seq (.reg [⟨(some 11), 176, none, .bi false .lss (.t 10) (.t 9)⟩])
  (.seq (.cond (.t 11) .skip (.exit 0))
  (.seq (.block 1 (.seq (.reg [⟨(some 12), 192, none, .mv (.t 10)⟩,
    ⟨(some 13), 208, none, .ia 1 (.t 8) (.t 10)⟩,
    ⟨(some 14), 224, none, .ld 1 false (.t 13)⟩,
    ⟨(some 4), 64, none, .mv (.t 12)⟩,
    ⟨(some 5), 80, none, .mv (.t 14)⟩])
  (.seq (.reg [⟨(some 15), 240, none, .mv (.t 5)⟩,
    ⟨(some 16), 256, none, .call (.c (.fn (.func 11) [] [])) [(.t 15)]⟩,
    ⟨(some 6), 96, none, .mv (.t 16)⟩])
  (.seq (.reg [⟨(some 17), 272, none, .mv (.t 6)⟩,
    ⟨(some 18), 288, none, .len (.t 17)⟩,
    ⟨(some 19), 304, none, .bi false .gtr (.t 18) (.c (.int .i64 0))⟩,
    ⟨(some 20), 320, none, .mv (.t 19)⟩,
    ⟨(some 21), 336, (some (20, true)), .mv (.t 6)⟩,
    ⟨(some 22), 352, (some (20, true)), .ia 1 (.t 21) (.c (.int .i64 0))⟩,
    ⟨(some 23), 368, (some (20, true)), .ld 1 false (.t 22)⟩,
    ⟨(some 24), 384, (some (20, true)), .ixs (.t 23) (.c (.int .i64 0))⟩,
    ⟨(some 25), 400, (some (20, true)), .bi false .neq (.t 24) (.c (.int .u8 35))⟩,
    ⟨(some 26), 416, none, .pick (.t 20) (.t 25) (.c (.bool false))⟩])
  (.cond (.t 26) (.reg [⟨(some 27), 432, none, .mv (.t 3)⟩,
    ⟨(some 28), 448, none, .mv (.t 4)⟩,
    ⟨(some 29), 464, none, .bi false .add (.t 28) (.c (.int .i64 1))⟩,
    ⟨(some 30), 480, none, .mv (.t 6)⟩,
    ⟨(some 31), 496, none, .bd [(.int .i64 0), (.nil 1)] [(0, 1, (.t 29)), (1, 1, (.t 30))]⟩,
    ⟨(some 32), 512, none, .bs 73 2 [(.t 31)]⟩,
    ⟨(some 33), 528, none, .app 73 2 32 (.t 27) (.t 32)⟩,
    ⟨(some 3), 48, none, .mv (.t 33)⟩]) .skip)))))
  (.reg [⟨(some 34), 544, none, .bi false .add (.t 10) (.c (.int .i64 1))⟩,
    ⟨(some 10), 160, none, .mv (.t 34)⟩]))))
def c36 : C := (.seq (.reg [⟨(some 2), 32, none, .mv (.c (.nil 2))⟩])
  (.seq (.reg [⟨(some 3), 48, none, .mv (.c (.nil 2))⟩])
  (.seq (.seq (.reg [⟨(some 7), 112, none, .mv (.t 0)⟩,
    ⟨(some 8), 128, none, .call (.c (.fn (.func 16) [] [])) [(.t 7), (.c (.str [10]))]⟩,
    ⟨(some 9), 144, none, .len (.t 8)⟩,
    ⟨(some 10), 160, none, .mv (.c (.int .i64 0))⟩])
  (.block 0 (.loop c36L1)))
  (.seq (.reg [⟨(some 35), 560, none, .mv (.t 3)⟩,
    ⟨(some 2), 32, none, .mv (.t 35)⟩])
  .ret))))
theorem fits36 : fits Tryz.prog false Tryz.f36 1 36 [(2, none)] = some c36.er := by kernel_rfl
theorem call11 (s : List UInt8) (h : s.length ≤ 65536) : PureCall Tryz.prog 11 [.str s] [] ⟨.os 1000000000, [], [.row 0 9 1 (wordsB isBl s).length (fl eStr (wordsB isBl s))]⟩ := by
  refine pure_call mix Tryz.func11 fits11 rfl ?_
  conv => whnf
  refine ⟨_, fun _ => call31 s h, ?_⟩
  conv => whnf
  refine ⟨?_, [64], ?_⟩
  · exact g0
  conv => whnf
  refine ⟨rfl, ?_, trivial, ?_⟩ <;> exact ent
def cntd : List (List UInt8) → Bool
  | [] => false
  | x :: _ => !(x.getD 0 0 == 35)
def linL : Int → List (List (List UInt8)) → List (Int × List (List UInt8))
  | _, [] => []
  | i, w :: r => if cntd w = true then (i + 1, w) :: linL (i + 1) r else linL (i + 1) r
def eLn (x : Int × List (List UInt8)) : List PV := [.int .i64 x.1, .sl 0 1 x.2.length (fl eStr x.2)]
def linesW (s : List UInt8) : List (List (List UInt8)) := (splitC 10 s).map (wordsB isBl)
theorem linesW_getD {s : List UInt8} {i : Nat} (h : i < (splitC 10 s).length) : (linesW s).getD i default = wordsB isBl ((splitC 10 s).getD i default) := by
  simp [linesW, List.getD, h]
theorem linesW_len (s : List UInt8) : (linesW s).length = (splitC 10 s).length := by simp [linesW]
theorem linL_drop {W : List (List (List UInt8))} {i : Nat} (h : i < W.length) : linL (i : Int) (W.drop i) = if cntd (W.getD i default) = true then ((i : Int) + 1, W.getD i default) :: linL ((i : Int) + 1) (W.drop (i + 1)) else linL ((i : Int) + 1) (W.drop (i + 1)) := by
  rw [List.drop_eq_getElem_cons h]
  have : W.getD i default = W[i] := by simp [List.getD, h]
  rw [this]; rfl
set_option maxRecDepth 100000 in
set_option maxHeartbeats 8000000 in
theorem call36 (s : List UInt8) (hs : s.length ≤ 65536) : PureCall Tryz.prog 36 [.str s] [] ⟨.os 1000000000, [], [.row 0 73 2 (linL 0 (linesW s)).length (fl eLn (linL 0 (linesW s)))]⟩ := by
  obtain ⟨L, hL⟩ : ∃ L, L = splitC 10 s := ⟨_, rfl⟩
  obtain ⟨W, hW⟩ : ∃ W, W = linesW s := ⟨_, rfl⟩
  have hWl : W.length = L.length := by rw [hW, hL, linesW_len]
  have hLl : L.length ≤ 65537 := by have := (splitC_len 10 s).1; rw [← hL] at this; omega
  have hWg : ∀ i, i < L.length → W.getD i default = wordsB isBl (L.getD i default) := fun i hi => by
    rw [hW, linesW_getD (by rw [← hL]; exact hi), hL]
  have hLm : ∀ i, i < L.length → (L.getD i default).length ≤ 65536 := fun i hi => by
    have := (splitC_len 10 s).2 (L.getD i default) (by rw [← hL]; exact getD_mem hi); omega
  refine pure_call mix Tryz.func36 fits36 rfl ?_
  conv => whnf
  refine ⟨_, fun _ => call16 s 10 (by omega), ?_⟩
  rw [← hL, ← hW]
  conv => whnf
  refine ⟨?_, ?_⟩
  · exact g0
  refine LSem.adopt 3 1000000 73 2 2 rfl rfl ?_
  refine LSem.loop (n := 36) mix (α := Nat × List (Int × List (List UInt8))) (fun x => x.1 ≤ L.length ∧ x.2.length ≤ x.1 ∧ x.2 ++ linL (x.1 : Int) (W.drop x.1) = linL 0 W)
    (fun x => [(3, .os 1000000), (8, .os 128), (9, .int .i64 L.length), (10, .int .i64 x.1)])
    (fun x => [(1000000, .row 0 73 2 x.2.length (fl eLn x.2)), (128, .row 0 9 1 L.length (fl eStr L))]) (fun x => L.length - x.1) (0, []) ?_ ?_ ?_
  · exact ⟨Nat.zero_le _, Nat.le_refl _, rfl⟩
  · refine ⟨rfl, rfl, ?_, ?_⟩ <;> exact ent
  · rintro ⟨i, out⟩ ⟨hi, ho, hp⟩
    dsimp only at hi ho hp
    have hj : ((i : Int)).toNat = i := by omega
    conv => whnf
    refine ⟨trivial, fun hc => ?_, fun hc => ?_⟩
    · replace hc := of_decide_eq_true hc
      have hlt : i < L.length := by
        have h : (i : Int) < L.length := hc
        omega
      rw [linL_drop (by omega)] at hp
      have hWi := hWg i hlt
      have hok := words_ok isBl (L.getD i default)
      conv => whnf
      dsimp only
      rw [hj]
      refine ⟨_, fun _ => call11 (L.getD i default) (hLm i hlt), ?_⟩
      rw [← hWi] at hok ⊢
      generalize W.getD i default = w at hp hok ⊢
      cases w with
      | nil =>
        rw [if_neg (by decide)] at hp
        conv => whnf
        refine ⟨?_, fun h => (by cases h), fun _ => ?_⟩
        · exact g0
        conv => whnf
        refine ⟨?_, (i + 1, out), ⟨hlt, by dsimp only; omega, hp⟩, ?_, rfl, rfl, ?_, ?_⟩
        · exact g0
        · dsimp only; omega
        · exact ent
        · exact ent
      | cons x r =>
        have hx := (hok x (List.mem_cons_self ..)).1
        have hxl : 0 < x.length := List.length_pos_iff.2 hx
        have hcn : cntd (x :: r) = !(x.getD 0 0 == 35) := rfl
        have h35 : (((x.getD 0 0).toNat : Int) != 35) = !(x.getD 0 0 == 35) := by
          rw [Bool.eq_iff_iff]
          simp only [bne_iff_ne, ne_eq, Bool.not_eq_true', beq_eq_false_iff_ne]
          constructor
          · intro h e; rw [e] at h; exact h rfl
          · intro h e; exact h (UInt8.toNat_inj.1 (by show _ = 35; omega))
        rw [hcn, ← h35] at hp
        have hd : decide ((0 : Int) < (((x :: r).length : Nat) : Int)) = true := decide_eq_true (by rw [List.length_cons]; omega)
        conv => whnf
        refine ⟨?_, fun h => ?_, fun h => ?_⟩
        · exact g1
        · replace h : (((x.getD 0 0).toNat : Int) != 35) = true := by rw [hd] at h; exact h
          rw [if_pos h] at hp
          have q := fl_push eLn out ((i : Int) + 1, x :: r)
          have hol : (out ++ [((i : Int) + 1, x :: r)]).length = out.length + 1 := by simp
          conv => whnf
          refine ⟨?_, (i + 1, out ++ [((i : Int) + 1, x :: r)]), ⟨hlt, by dsimp only; rw [hol]; omega, by dsimp only; rw [List.append_assoc]; exact hp⟩, ?_, rfl, rfl, ?_, ?_⟩
          · exact g0
          · dsimp only; omega
          · exact ent
          · exact ent
        · replace h : (((x.getD 0 0).toNat : Int) != 35) = false := by rw [hd] at h; exact h
          rw [if_neg (by rw [h]; decide)] at hp
          conv => whnf
          refine ⟨?_, (i + 1, out), ⟨hlt, by dsimp only; omega, hp⟩, ?_, rfl, rfl, ?_, ?_⟩
          · exact g0
          · dsimp only; omega
          · exact ent
          · exact ent
    · replace hc := of_decide_eq_false hc
      have hk : i = L.length := by
        have h : ¬ (i : Int) < L.length := hc
        omega
      subst hk
      rw [← hWl, List.drop_length] at hp
      rw [show linL 0 W = out by rw [← hp]; exact List.append_nil out]
      conv => whnf
      refine ⟨?_, [1000000], ?_⟩
      · exact g0
      conv => whnf
      refine ⟨rfl, ?_, trivial, ?_⟩ <;> exact ent
end Pv
end Go.Proofs.YtknidebojogodaaGreatDoor
/- WORDS OF A TEXT: how many, how long. No program in sight. -/
set_option linter.unusedSimpArgs false
set_option linter.unusedVariables false
namespace Go.Proofs.YtknidebojogodaaGreatDoor
namespace Pv
theorem splitP_len (p : UInt8 → Bool) : ∀ s : List UInt8, (splitP p s).length ≤ s.length + 1 ∧ ∀ x ∈ splitP p s, x.length ≤ s.length
  | [] => by simp [splitP]
  | x :: xs => by
    obtain ⟨h1, h2⟩ := splitP_len p xs
    simp only [splitP]
    split
    · refine ⟨by simp only [List.length_cons]; omega, fun y hy => ?_⟩
      rcases List.mem_cons.1 hy with rfl | hy
      · simp
      · have := h2 y hy; simp only [List.length_cons]; omega
    · split
      · simp
      · rename_i h t he
        rw [he] at h1 h2
        refine ⟨by simp only [List.length_cons] at h1 ⊢; omega, fun y hy => ?_⟩
        rcases List.mem_cons.1 hy with rfl | hy
        · have := h2 h (List.mem_cons_self ..); simp only [List.length_cons]; omega
        · have := h2 y (List.mem_cons_of_mem _ hy); simp only [List.length_cons]; omega
theorem splitC_P (c : UInt8) : ∀ s : List UInt8, splitC c s = splitP (fun b => b == c) s
  | [] => rfl
  | x :: xs => by
    simp only [splitC, splitP, splitC_P c xs, beq_iff_eq] <;> (split <;> first | rfl | (cases splitP (fun b => b == c) xs <;> rfl))
theorem wordsB_mem {p : UInt8 → Bool} {s x : List UInt8} (h : x ∈ wordsB p s) : x.length ≤ s.length := (splitP_len p s).2 x (List.mem_filter.1 h).1
theorem wordsB_len (p : UInt8 → Bool) (s : List UInt8) : (wordsB p s).length ≤ s.length + 1 := Nat.le_trans (List.length_filter_le _ _) (splitP_len p s).1
end Pv
end Go.Proofs.YtknidebojogodaaGreatDoor
/- LAW 13, THE WALKS: a text's conditions. -/
set_option linter.unusedSimpArgs false
set_option linter.unusedVariables false
namespace Go.Proofs.YtknidebojogodaaGreatDoor
namespace Pv
def c18L1 : C := (.seq (.reg [⟨(some 23), 368, none, .bi false .lss (.t 22) (.t 21)⟩])
  (.seq (.cond (.t 23) .skip (.exit 0))
  (.seq (.block 1 (.seq (.reg [⟨(some 24), 384, none, .ia 2 (.t 20) (.t 22)⟩,
    ⟨(some 25), 400, none, .ld 2 true (.t 24)⟩,
    ⟨(some 8), 128, none, .al [(.int .i64 0), (.nil 1)]⟩,
    ⟨none, 0, none, .st 2 (.t 8) (.t 25)⟩])
  (.seq (.reg [⟨(some 27), 432, none, .fa 1 (.t 8)⟩,
    ⟨(some 28), 448, none, .ld 1 false (.t 27)⟩,
    ⟨(some 29), 464, none, .call (.c (.fn (.func 37) [] [])) [(.t 28)]⟩,
    ⟨(some 26), 416, none, .mv (.t 29)⟩,
    ⟨(some 30), 480, none, .ex (.t 26) 0⟩,
    ⟨(some 31), 496, none, .ex (.t 26) 1⟩,
    ⟨(some 9), 144, none, .al [(.int .i64 0), (.int .i64 0), (.int .i64 0), (.int .i64 0), (.int .i64 0), (.int .i64 0), (.int .i64 0)]⟩,
    ⟨none, 0, none, .st 7 (.t 9) (.t 30)⟩,
    ⟨(some 10), 160, none, .mv (.t 31)⟩])
  (.seq (.seq (.reg [⟨(some 32), 512, none, .mv (.t 10)⟩,
    ⟨(some 33), 528, none, .un false .not (.t 32)⟩])
  (.cond (.t 33) (.seq (.drw [⟨(some 34), 544, none, .fa 0 (.t 8)⟩,
    ⟨(some 35), 560, none, .ld 1 false (.t 34)⟩,
    ⟨(some 2), 32, none, .mv (.c (.nil 7))⟩,
    ⟨(some 3), 48, none, .mv (.t 35)⟩,
    ⟨(some 4), 64, none, .mv (.c (.int .i64 7))⟩]
    [(0, 2, 34), (1, 2, 35)])
  .ret) .skip))
  (.seq (.seq (.reg [⟨(some 36), 576, none, .ld 7 true (.t 9)⟩,
    ⟨(some 37), 592, none, .call (.c (.fn (.func 38) [] [])) [(.t 36)]⟩,
    ⟨(some 11), 176, none, .mv (.t 37)⟩])
  (.seq (.reg [⟨(some 38), 608, none, .mv (.t 11)⟩,
    ⟨(some 39), 624, none, .bi false .neq (.t 38) (.c (.int .i64 0))⟩])
  (.cond (.t 39) (.seq (.drw [⟨(some 40), 640, none, .fa 0 (.t 8)⟩,
    ⟨(some 41), 656, none, .ld 1 false (.t 40)⟩,
    ⟨(some 42), 672, none, .mv (.t 11)⟩,
    ⟨(some 2), 32, none, .mv (.c (.nil 7))⟩,
    ⟨(some 3), 48, none, .mv (.t 41)⟩,
    ⟨(some 4), 64, none, .mv (.t 42)⟩]
    [(0, 2, 40), (0, 3, 40), (1, 2, 41), (1, 3, 41), (2, 3, 42), (2, 4, 42)])
  .ret) .skip)))
  (.reg [⟨(some 43), 688, none, .mv (.t 6)⟩,
    ⟨(some 44), 704, none, .ld 7 true (.t 9)⟩,
    ⟨(some 45), 720, none, .bs 49 7 [(.t 44)]⟩,
    ⟨(some 46), 736, none, .app 49 7 56 (.t 43) (.t 45)⟩,
    ⟨(some 6), 96, none, .mv (.t 46)⟩]))))))
  (.reg [⟨(some 47), 752, none, .bi false .add (.t 22) (.c (.int .i64 1))⟩,
    ⟨(some 22), 352, none, .mv (.t 47)⟩]))))
def c18 : C := (.seq (.reg [⟨(some 2), 32, none, .mv (.c (.nil 7))⟩,
    ⟨(some 3), 48, none, .mv (.c (.int .i64 0))⟩,
    ⟨(some 4), 64, none, .mv (.c (.int .i64 0))⟩])
  (.seq (.seq (.reg [⟨(some 12), 192, none, .mv (.t 0)⟩,
    ⟨(some 13), 208, none, .lens (.t 12)⟩,
    ⟨(some 14), 224, none, .bi false .gtr (.t 13) (.c (.int .i64 65536))⟩])
  (.cond (.t 14) (.seq (.reg [⟨(some 2), 32, none, .mv (.c (.nil 7))⟩,
    ⟨(some 3), 48, none, .mv (.c (.int .i64 0))⟩,
    ⟨(some 4), 64, none, .mv (.c (.int .i64 10))⟩])
  .ret) .skip))
  (.seq (.reg [⟨(some 15), 240, none, .mv (.t 0)⟩,
    ⟨(some 16), 256, none, .call (.c (.fn (.func 36) [] [])) [(.t 15)]⟩,
    ⟨(some 5), 80, none, .mv (.t 16)⟩])
  (.seq (.seq (.reg [⟨(some 17), 272, none, .mv (.t 5)⟩,
    ⟨(some 18), 288, none, .len (.t 17)⟩,
    ⟨(some 19), 304, none, .bi false .gtr (.t 18) (.c (.int .i64 200))⟩])
  (.cond (.t 19) (.seq (.reg [⟨(some 2), 32, none, .mv (.c (.nil 7))⟩,
    ⟨(some 3), 48, none, .mv (.c (.int .i64 0))⟩,
    ⟨(some 4), 64, none, .mv (.c (.int .i64 10))⟩])
  .ret) .skip))
  (.seq (.reg [⟨(some 6), 96, none, .mv (.c (.nil 7))⟩])
  (.seq (.seq (.reg [⟨(some 20), 320, none, .mv (.t 5)⟩,
    ⟨(some 21), 336, none, .len (.t 20)⟩,
    ⟨(some 22), 352, none, .mv (.c (.int .i64 0))⟩])
  (.block 0 (.loop c18L1)))
  (.seq (.reg [⟨(some 48), 768, none, .mv (.t 6)⟩,
    ⟨(some 2), 32, none, .mv (.t 48)⟩,
    ⟨(some 3), 48, none, .mv (.c (.int .i64 0))⟩,
    ⟨(some 4), 64, none, .mv (.c (.int .i64 0))⟩])
  .ret)))))))
theorem fits18 : fits Tryz.prog false Tryz.f18 1 49 [(2, none), (3, none), (4, none)] = some c18.er := by kernel_rfl
theorem linL_mem : ∀ {W : List (List (List UInt8))} {i : Int} {x : Int × List (List UInt8)}, x ∈ linL i W → x.2 ∈ W
  | [], i, x, h => by simp [linL] at h
  | w :: r, i, x, h => by
    unfold linL at h
    split at h
    · rcases List.mem_cons.1 h with rfl | h
      · simp
      · exact List.mem_cons_of_mem _ (linL_mem h)
    · exact List.mem_cons_of_mem _ (linL_mem h)
theorem linL_len : ∀ (W : List (List (List UInt8))) (i : Int), (linL i W).length ≤ W.length
  | [], i => Nat.le_refl _
  | w :: r, i => by
    have ih := linL_len r (i + 1)
    unfold linL
    split <;> simp only [List.length_cons] <;> omega
theorem linesW_lens {s : List UInt8} (hs : s.length ≤ 65536) : ∀ w ∈ linesW s, wLens w := fun w hw => by
  obtain ⟨y, hy, rfl⟩ := List.mem_map.1 hw
  have h1 := (splitC_len 10 s).2 y hy
  have h2 := wordsB_len isBl y
  exact ⟨by omega, fun x hx => by have := wordsB_mem hx; omega⟩
def parG : List (Int × List (List UInt8)) → List Cd → List Cd × Int × Int
  | [], out => (out, 0, 0)
  | x :: r, out => if (condG x.2).2 = false then ([], x.1, 7) else if oneC (condG x.2).1 ≠ 0 then ([], x.1, oneC (condG x.2).1) else parG r (out ++ [(condG x.2).1])
def parseG (s : List UInt8) : List Cd × Int × Int := if 65536 < s.length then ([], 0, 10) else if 200 < (linL 0 (linesW s)).length then ([], 0, 10) else parG (linL 0 (linesW s)) []
theorem parG_drop {l : List (Int × List (List UInt8))} {i : Nat} (out : List Cd) (h : i < l.length) : parG (l.drop i) out = if (condG (l.getD i default).2).2 = false then ([], (l.getD i default).1, 7) else
    if oneC (condG (l.getD i default).2).1 ≠ 0 then ([], (l.getD i default).1, oneC (condG (l.getD i default).2).1) else parG (l.drop (i + 1)) (out ++ [(condG (l.getD i default).2).1]) := by
  rw [List.drop_eq_getElem_cons h]
  have : l.getD i default = l[i] := by simp [List.getD, h]
  rw [this]; rfl
set_option maxRecDepth 100000 in
set_option maxHeartbeats 8000000 in
theorem call18 (s : List UInt8) (hs : s.length ≤ 4611686018427387904) : PureCall Tryz.prog 18 [.str s] [] ⟨.tup [.sl 0 7 (parseG s).1.length (fl eCd (parseG s).1), .int .i64 (parseG s).2.1, .int .i64 (parseG s).2.2], [], []⟩ := by
  refine pure_call mix Tryz.func18 fits18 rfl ?_
  conv => whnf
  refine ⟨?_, fun hc => ?_, fun hc => ?_⟩
  · exact g0
  · simp only [bp] at hc
    rw [show parseG s = ([], 0, 10) by unfold parseG; rw [if_pos (by omega)]]
    conv => whnf
    exact ret
  simp only [bp] at hc
  have hs2 : s.length ≤ 65536 := by omega
  have hlen := linL_len (linesW s) 0
  rw [linesW_len] at hlen
  have hll2 := (splitC_len 10 s).1
  have hmem : ∀ i, i < (linL 0 (linesW s)).length → wLens ((linL 0 (linesW s)).getD i default).2 := fun i hi => linesW_lens hs2 _ (linL_mem (getD_mem hi))
  conv => whnf
  refine ⟨_, fun _ => call36 s hs2, ?_⟩
  conv => whnf
  refine ⟨?_, fun hc2 => ?_, fun hc2 => ?_⟩
  · exact g0
  · simp only [bp] at hc2
    rw [show parseG s = ([], 0, 10) by unfold parseG; rw [if_neg (by omega), if_pos (by omega)]]
    conv => whnf
    exact ret
  simp only [bp] at hc2
  rw [show parseG s = parG (linL 0 (linesW s)) [] by unfold parseG; rw [if_neg (by omega), if_neg (by omega)]]
  generalize linL 0 (linesW s) = l at hlen hmem hc2 ⊢
  conv => whnf
  refine ⟨trivial, ?_⟩
  refine LSem.adopt 6 1000000 49 7 7 rfl rfl ?_
  refine LSem.loop (n := 49) mix (α := Nat × List Cd) (fun x => x.1 ≤ l.length ∧ x.2.length ≤ x.1 ∧ parG (l.drop x.1) x.2 = parG l [])
    (fun x => [(6, .os 1000000), (20, .os 256), (21, .int .i64 l.length), (22, .int .i64 x.1)])
    (fun x => [(1000000, .row 0 49 7 x.2.length (fl eCd x.2)), (256, .row 0 73 2 l.length (fl eLn l))]) (fun x => l.length - x.1) (0, []) ?_ ?_ ?_
  · exact ⟨Nat.zero_le _, Nat.le_refl _, rfl⟩
  · refine ⟨rfl, rfl, ?_, ?_⟩ <;> exact ent
  · rintro ⟨i, out⟩ ⟨hi, ho, hp⟩
    dsimp only at hi ho hp
    have hj : ((i : Int)).toNat = i := by omega
    conv => whnf
    refine ⟨trivial, fun hc3 => ?_, fun hc3 => ?_⟩
    · replace hc3 := of_decide_eq_true hc3
      have hlt : i < l.length := by
        have h : (i : Int) < l.length := hc3
        omega
      have hw := hmem i hlt
      rw [parG_drop out hlt] at hp
      conv => whnf
      dsimp only
      rw [hj]
      refine ⟨_, fun _ => call37 (l.getD i default).2 hw, ?_⟩
      generalize condG (l.getD i default).2 = R at hp ⊢
      generalize (l.getD i default).1 = nu at hp ⊢
      conv => whnf
      refine ⟨?_, fun h1 => ?_, fun h1 => ?_⟩
      · exact g0
      · simp only [bp] at h1
        rw [if_pos h1] at hp
        rw [← hp]
        conv => whnf
        refine ⟨rfl, ?_⟩
        conv => whnf
        exact ret
      simp only [bp] at h1
      rw [if_neg (by rw [h1]; decide)] at hp
      conv => whnf
      refine ⟨_, fun _ => call38 R.1, ?_⟩
      conv => whnf
      refine ⟨?_, fun h2 => ?_, fun h2 => ?_⟩
      · exact g0
      · simp only [bp] at h2
        rw [if_pos h2] at hp
        rw [← hp]
        conv => whnf
        refine ⟨rfl, ?_⟩
        conv => whnf
        exact ret
      · simp only [bp] at h2
        rw [if_neg (by omega)] at hp
        have q := fl_push eCd out R.1
        conv => whnf
        refine ⟨?_, (i + 1, out ++ [R.1]), ⟨hlt, by dsimp only; rw [List.length_append]; simp only [List.length_cons, List.length_nil]; omega, hp⟩, ?_, rfl, rfl, ?_, ?_⟩
        · exact g0
        · dsimp only; omega
        · exact ent
        · exact ent
    · replace hc3 := of_decide_eq_false hc3
      have hk : i = l.length := by
        have h : ¬ (i : Int) < l.length := hc3
        omega
      subst hk
      rw [List.drop_length] at hp
      have hp2 : (out, (0 : Int), (0 : Int)) = parG l [] := hp
      rw [← hp2]
      conv => whnf
      exact ret
end Pv
end Go.Proofs.YtknidebojogodaaGreatDoor
set_option linter.unusedSimpArgs false
set_option linter.unusedVariables false
namespace Go.Proofs.YtknidebojogodaaGreatDoor
namespace Pv
open Go.RowKit Go.Shelf
variable {P : Program} {ρ : Ren}
theorem Held.drew {T e : TypeId} {b : Nat} {p v : Value} {s : List UInt8} {w : World} (h : Held T e b p v s w) : Held T e b p v s w.drew := ⟨h.cells, h.own, h.ne⟩
theorem Held.alloc0 {T e : TypeId} {b : Nat} {p v : Value} {s : List UInt8} {w : World} (h : Held T e b p v s w) (o : Obj) : Held T e b p v s (w.alloc o) := by
  refine ⟨(Lib.alloc_old w o b h.lt).trans h.cells, ?_, h.ne⟩
  obtain ⟨hl, ho⟩ := h.own
  refine ⟨hl, ?_⟩
  rcases ho with ho | ⟨g, cap, cur, fz, hv, h0, hg, rest⟩
  · exact .inl ho
  · exact .inr ⟨g, cap, cur, fz, hv, h0, (Lib.alloc_old w o g (Array.getElem?_eq_some_iff.1 hg).1).trans hg, rest⟩
set_option maxHeartbeats 2000000 in
set_option maxRecDepth 100000 in
theorem held_nil (L : Lays.n169 P ρ) (X : Builder.Extra P ρ) {b : Nat} {p : Value} {w : World} (h : Held (ρ.t 72) (ρ.t 5) b p (.slice none 0 0) [] w) :
    Calls P (ρ.f 169) #[.pointer (some ⟨b, 0, none⟩)] w fun e w' => e = .returned (.string ⟨[].toArray⟩) ∧ Held (ρ.t 72) (ρ.t 5) b p (.slice none 0 0) [] w' ∧ Keeps (fun k => k = b ∨ (Value.slice none 0 0).ownBlock = some k) w w' := by
  have hUS := Any.unsafeString_none L X
  have c1 : w.drew.cell? ⟨b, 1, none⟩ = some (.slice none 0 0) := by
    have : w.drew.heap[b]? = some (.cells #[p, .slice none 0 0] (ρ.t 72) (0, 0)) := h.cells
    rw [Lib.cell_of_heap this]; rfl
  have hSD : (Builtin.unsafeSliceData_ #[(ρ.t 37)] (ρ.t 127) #[.slice none 0 0]).run P w.drew = .ok (.pointer none) w.drew := rfl
  have mixed := L.mixed
  have t72 := L.t72; have a72 := L.a72; have z72 := L.z72; have v72 := L.v72; have u72 := run_underlying L.t72
  have t70 := L.t70; have a70 := L.a70; have z70 := L.z70; have v70 := L.v70; have u70 := run_underlying L.t70
  have t37 := L.t37; have a37 := L.a37; have z37 := L.z37; have v37 := L.v37; have u37 := run_underlying L.t37
  have t127 := L.t127; have a127 := L.a127; have z127 := L.z127; have v127 := L.v127; have u127 := run_underlying L.t127
  have t3 := L.t3; have a3 := L.a3; have z3 := L.z3; have v3 := L.v3; have u3 := run_underlying L.t3
  have t9 := L.t9; have a9 := L.a9; have z9 := L.z9; have v9 := L.v9; have u9 := run_underlying L.t9
  have t5 := X.t5; have a5 := X.a5; have z5 := X.z5; have v5 := X.v5; have u5 := run_underlying X.t5
  go_enter L.f169, Body.n169_ntmps ρ
  go_wp2
  go_region_o
  all_goals (go_wp2; go_ret; exact ⟨rfl, h.drew, Keeps.drew _ w⟩)
set_option maxHeartbeats 2000000 in
set_option maxRecDepth 100000 in
theorem held_noroom (L : Lays.n169 P ρ) (X : Builder.Extra P ρ) {b g : Nat} {p : Value} {cur : Array Value} {fz : Nat × Nat} {w : World} (h : Held (ρ.t 72) (ρ.t 5) b p (.slice (some ⟨g, 0, none⟩) 0 0) [] w) (hg : w.heap[g]? = some (.cells cur (ρ.t 5) fz)) :
    Calls P (ρ.f 169) #[.pointer (some ⟨b, 0, none⟩)] w fun e w' => e = .returned (.string ⟨[].toArray⟩) ∧ Held (ρ.t 72) (ρ.t 5) b p (.slice (some ⟨g, 0, none⟩) 0 0) [] w' ∧ Keeps (fun k => k = b ∨ (Value.slice (some ⟨g, 0, none⟩) 0 0).ownBlock = some k) w w' := by
  have hUS := Any.unsafeString_none L X
  have hlt := h.lt
  have c1 : w.drew.cell? ⟨b, 1, none⟩ = some (.slice (some ⟨g, 0, none⟩) 0 0) := by
    have : w.drew.heap[b]? = some (.cells #[p, .slice (some ⟨g, 0, none⟩) 0 0] (ρ.t 72) (0, 0)) := h.cells
    rw [Lib.cell_of_heap this]; rfl
  have hSD : (Builtin.unsafeSliceData_ #[(ρ.t 37)] (ρ.t 127) #[.slice (some ⟨g, 0, none⟩) 0 0]).run P w.drew = .ok (.pointer (some ⟨w.drew.heap.size, 0, none⟩)) (w.drew.alloc (.view ⟨g, 0, none⟩ (ρ.t 5))) :=
    Lib.run_unsafeSliceData_zero w.drew _ _ (ρ.t 5) L.t127 ⟨g, 0, none⟩ 0 ((ρ.t 5), cur.size) (by have hg' : w.drew.heap[g]? = some (.cells cur (ρ.t 5) fz) := hg; simp [World.shape?, hg'])
  have c2 : (w.drew.alloc (.view ⟨g, 0, none⟩ (ρ.t 5))).cell? ⟨b, 1, none⟩ = some (.slice (some ⟨g, 0, none⟩) 0 0) := by
    have : (w.drew.alloc (.view ⟨g, 0, none⟩ (ρ.t 5))).heap[b]? = _ := (Lib.alloc_old w.drew _ b hlt).trans h.cells
    rw [Lib.cell_of_heap this]; rfl
  have c3 : (w.alloc (.view ⟨g, 0, none⟩ (ρ.t 5))).drew.cell? ⟨b, 1, none⟩ = some (.slice (some ⟨g, 0, none⟩) 0 0) := c2
  have c0 : w.cell? ⟨b, 1, none⟩ = some (.slice (some ⟨g, 0, none⟩) 0 0) := c1
  have mixed := L.mixed
  have t72 := L.t72; have a72 := L.a72; have z72 := L.z72; have v72 := L.v72; have u72 := run_underlying L.t72
  have t70 := L.t70; have a70 := L.a70; have z70 := L.z70; have v70 := L.v70; have u70 := run_underlying L.t70
  have t37 := L.t37; have a37 := L.a37; have z37 := L.z37; have v37 := L.v37; have u37 := run_underlying L.t37
  have t127 := L.t127; have a127 := L.a127; have z127 := L.z127; have v127 := L.v127; have u127 := run_underlying L.t127
  have t3 := L.t3; have a3 := L.a3; have z3 := L.z3; have v3 := L.v3; have u3 := run_underlying L.t3
  have t9 := L.t9; have a9 := L.a9; have z9 := L.z9; have v9 := L.v9; have u9 := run_underlying L.t9
  have t5 := X.t5; have a5 := X.a5; have z5 := X.z5; have v5 := X.v5; have u5 := run_underlying X.t5
  go_enter L.f169, Body.n169_ntmps ρ
  go_wp2
  go_region_o
  all_goals (go_wp2; go_ret; exact ⟨rfl, h.drew.alloc0 _, (Keeps.drew _ w).trans (Keeps.alloc _ w.drew _)⟩)
set_option maxHeartbeats 2000000 in
set_option maxRecDepth 100000 in
theorem held_room (L : Lays.n169 P ρ) (X : Builder.Extra P ρ) {b g cap : Nat} {p : Value} {w : World} (hc0 : cap ≠ 0) (h : Held (ρ.t 72) (ρ.t 5) b p (.slice (some ⟨g, 0, none⟩) 0 cap) [] w) :
    Calls P (ρ.f 169) #[.pointer (some ⟨b, 0, none⟩)] w fun e w' => e = .returned (.string ⟨[].toArray⟩) ∧ Held (ρ.t 72) (ρ.t 5) b p (.slice (some ⟨g, 0, none⟩) 0 cap) [] w' ∧ Keeps (fun k => k = b ∨ (Value.slice (some ⟨g, 0, none⟩) 0 cap).ownBlock = some k) w w' := by
  have hUS := Any.unsafeString_none L X
  have c1 : w.drew.cell? ⟨b, 1, none⟩ = some (.slice (some ⟨g, 0, none⟩) 0 cap) := by
    have : w.drew.heap[b]? = some (.cells #[p, .slice (some ⟨g, 0, none⟩) 0 cap] (ρ.t 72) (0, 0)) := h.cells
    rw [Lib.cell_of_heap this]; rfl
  have hSD : (Builtin.unsafeSliceData_ #[(ρ.t 37)] (ρ.t 127) #[.slice (some ⟨g, 0, none⟩) 0 cap]).run P w.drew = .ok (.pointer (some ⟨g, 0, none⟩)) w.drew :=
    Lib.run_unsafeSliceData_row _ _ _ _ _ _ hc0
  clear hc0
  have mixed := L.mixed
  have t72 := L.t72; have a72 := L.a72; have z72 := L.z72; have v72 := L.v72; have u72 := run_underlying L.t72
  have t70 := L.t70; have a70 := L.a70; have z70 := L.z70; have v70 := L.v70; have u70 := run_underlying L.t70
  have t37 := L.t37; have a37 := L.a37; have z37 := L.z37; have v37 := L.v37; have u37 := run_underlying L.t37
  have t127 := L.t127; have a127 := L.a127; have z127 := L.z127; have v127 := L.v127; have u127 := run_underlying L.t127
  have t3 := L.t3; have a3 := L.a3; have z3 := L.z3; have v3 := L.v3; have u3 := run_underlying L.t3
  have t9 := L.t9; have a9 := L.a9; have z9 := L.z9; have v9 := L.v9; have u9 := run_underlying L.t9
  have t5 := X.t5; have a5 := X.a5; have z5 := X.z5; have v5 := X.v5; have u5 := run_underlying X.t5
  go_enter L.f169, Body.n169_ntmps ρ
  go_wp2
  go_region_o
  all_goals (go_wp2; go_ret; exact ⟨rfl, h.drew, Keeps.drew _ w⟩)
theorem held_empty (L : Lays.n169 P ρ) (X : Builder.Extra P ρ) {b : Nat} {p v : Value} {w : World} (h : Held (ρ.t 72) (ρ.t 5) b p v [] w) :
    Calls P (ρ.f 169) #[.pointer (some ⟨b, 0, none⟩)] w fun e w' => e = .returned (.string ⟨[].toArray⟩) ∧ Held (ρ.t 72) (ρ.t 5) b p v [] w' ∧ Keeps (fun k => k = b ∨ v.ownBlock = some k) w w' := by
  rcases h.own.2 with ⟨rfl, _⟩ | ⟨g, cap, cur, fz, rfl, _, hg, _⟩
  · exact held_nil L X h
  · by_cases hc0 : cap = 0
    · subst hc0; exact held_noroom L X h hg
    · exact held_room L X hc0 h
end Pv
namespace Pv
theorem call29z (s : List UInt8) : PureCall Tryz.prog 29 [.pt 0 0 0] [.bld 57 5 s] ⟨.str s, [.bld 57 5 s], []⟩ := by
  cases s with
  | nil => exact pure_bld ⟨_, Tryz.func29, rfl, rfl⟩ args_nil (fun _ _ _ => .str []) fun w b p v hp hH =>
    (held_empty Sh.lays169 Sh.bX_169 hH).mono fun ev w' ⟨he, h1, h2⟩ => ⟨he, p, v, hp, h1, h2, fun g hg => .inl hg⟩
  | cons x r => exact call29 (x :: r) (by simp)
end Pv
end Go.Proofs.YtknidebojogodaaGreatDoor
