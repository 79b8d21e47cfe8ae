/- LAW 06, THE WALKS: texts as readings. -/
import Derived.Test.YtgbknfbcjddnhaaDoorZfg
import Derived.Shelf.Strings.BuilderK
import Derived.Shelf.Strings.Split
import Derived.Shelf.Strings.Cut
import Derived.Test.YtgbknfbcjddnhaaDoorRows
import Derived.Shelf.Strconv.Itoa3
import Derived.Shelf.Strings.FieldsFuncAny
import Derived.Lib.FieldsP
import Derived.Lib.SpaceUEq
import Derived.Lib.TrimAscii
import Derived.WalkKit
/- THE LIBRARY's strings.Builder: what its functions leave of the builder, and that nothing else changes. -/
set_option linter.unusedSimpArgs false
set_option linter.unusedVariables false
namespace Go.Proofs.YtgbknfbcjddnhaaDoor
namespace Pv
open Go.Shelf Go.RowKit
variable {P : Program} {ρ : Ren}

/-- A builder in its block b, its buffer v. -/
structure Held (T e : TypeId) (b : Nat) (p v : Value) (s : List UInt8) (w : World) : Prop where
  cells : w.heap[b]? = some (.cells #[p, v] T (0, 0))
  own : w.ownsRowF 0 e 1 v s.length (bytesV s)
  ne : v.ownBlock ≠ some b
def self (b : Nat) : Value := .pointer (some ⟨b, 0, none⟩)
theorem bytesV_length (s : List UInt8) : (bytesV s).length = s.length := by simp [bytesV]
theorem strCells_bytes (s : List UInt8) : Lib.strCells ⟨s.toArray⟩ = bytesV s := by simp [Lib.strCells, bytesV]
theorem Held.at_ {T e : TypeId} {b : Nat} {p v : Value} {s : List UInt8} {w : World} (h : Held T e b p v s w) : Lib.BuilderAtF T e 0 b p (bytesV s) w :=
  ⟨Nat.zero_le _, v, h.cells, by rw [bytesV_length]; exact h.own, h.ne⟩
theorem Held.lt {T e : TypeId} {b : Nat} {p v : Value} {s : List UInt8} {w : World} (h : Held T e b p v s w) : b < w.heap.size := (Array.getElem?_eq_some_iff.1 h.cells).1

/-- The check ahead of a write. -/
theorem held_check (L : Lays.n240 P ρ) (X : Builder.X72 P ρ) {b : Nat} {p v : Value} {s : List UInt8} {w : World} (hp : p = .pointer none ∨ p = self b) (h : Held (ρ.t 72) (ρ.t 5) b p v s w) :
    Calls P (ρ.f 240) #[.pointer (some ⟨b, 0, none⟩)] w fun e w' => e = .returned (.tuple #[]) ∧ Held (ρ.t 72) (ρ.t 5) b (self b) v s w' ∧ Keeps (· = b) w w' := by
  rcases hp with rfl | rfl
  · refine (Any.Builder_copyCheck_fresh L X b w h.at_.cell0 h.at_.shape ?_).mono ?_
    · simp [World.frozen?, h.cells]
    · rintro e w' ⟨rfl, rfl⟩
      have hk : Keeps (· = b) w (w.setCell ⟨b, 0, none⟩ (.pointer (some ⟨b, 0, none⟩))) :=
        ⟨rfl, rfl, rfl, by simp [World.setCell], fun k _ hk => Below.heap_setCell _ _ _ _ (fun e => hk (by simp [e]))⟩
      refine ⟨rfl, ⟨?_, ?_, h.ne⟩, hk⟩
      · simp [World.setCell, Array.getElem?_modify, h.cells, self]
      · exact h.own.kept (row := some b) ⟨rfl, rfl, rfl, by simp [World.setCell], fun k _ hk => Below.heap_setCell _ _ _ _ (fun e => hk (by simp [e]))⟩ (.inr h.ne)
  · refine (Any.Builder_copyCheck_used L X b w h.at_.cell0).mono ?_
    rintro e w' ⟨rfl, rfl⟩
    exact ⟨rfl, h, Keeps.refl _ _⟩

/-- Behind the append: the new buffer goes into the builder's second cell. -/
theorem held_put {T e : TypeId} {b : Nat} {v v' : Value} {s s' : List UInt8} {w w1 w2 : World} (h1 : Held T e b (self b) v s w1) (hk : Keeps (· = b) w w1) (hg : w1.grownBy w2 v.ownBlock) (hTe : T ≠ e)
    (ho : w2.ownsRowF 0 e 1 v' s'.length (bytesV s')) :
    Held T e b (self b) v' s' (w2.setCell ⟨b, 1, none⟩ v') ∧ Keeps (fun k => k = b ∨ v.ownBlock = some k) w (w2.setCell ⟨b, 1, none⟩ v') := by
  have hb2 : w2.heap[b]? = some (.cells #[self b, v] T (0, 0)) := by
    rw [hg.block b h1.lt (fun e => h1.ne e.symm)]; exact h1.cells
  have hput : Lib.BuilderAtF T e 0 b (self b) (bytesV s') (w2.setCell ⟨b, 1, none⟩ v') :=
    Lib.BuilderAtF.put (Nat.zero_le _) hb2 (by rw [bytesV_length]; exact ho) hTe
  obtain ⟨_, u, q1, q2, q3⟩ := hput
  have hu : u = v' := by
    have : (w2.setCell ⟨b, 1, none⟩ v').heap[b]? = some (.cells #[self b, v'] T (0, 0)) := by simp [World.setCell, Array.getElem?_modify, hb2]
    rw [q1] at this
    simp only [Option.some.injEq, Obj.cells.injEq] at this
    have h := congrArg (·[1]?) this.1
    simpa using h
  subst hu
  refine ⟨⟨q1, by rw [bytesV_length] at q2; exact q2, q3⟩, ?_⟩
  have hs2 : (w2.setCell ⟨b, 1, none⟩ u).heap.size = w2.heap.size := by simp [World.setCell]
  refine ⟨hg.os.trans hk.os, hg.tape.trans hk.tape, hg.output.trans hk.output, by rw [hs2]; exact Nat.le_trans hk.size hg.size, fun k hlt hn => ?_⟩
  have h2 : (w2.setCell ⟨b, 1, none⟩ u).heap[k]? = w2.heap[k]? := Below.heap_setCell _ _ _ _ (fun e => hn (.inl (by simpa using e)))
  rw [h2, hg.block k (Nat.lt_of_lt_of_le hlt hk.size) (fun e => hn (.inr e.symm))]
  exact hk.block k hlt (fun e => hn (.inl e))

/-- An append of a text: where the new buffer lies. -/
theorem run_app_str (w : World) (t u ty e : TypeId) (i : TypeInfo) (ht : P.underlying t = some (.slice e)) (hu : P.underlying u = some .string) (hi : P.info? e = some i) (hz : i.zero = some (.int .u8 0)) (hsize : i.size = 1) (hby : i.bytes = 1)
    (v : Value) (n : Nat) (xs : List Value) (hown : w.ownsRowF 0 e 1 v n xs) (s : ByteArray) (h63 : n + s.size ≤ maxLen) (hbytes : n + s.size ≤ 140737488355328) :
    ∃ v' w', (Builtin.append_ #[t, u] ty #[v, .string s]).run P w = .ok v' w' ∧ w'.ownsRowF 0 e 1 v' (n + s.size) (xs ++ Lib.strCells s) ∧ w.grownBy w' v.ownBlock ∧ (∀ g, v'.ownBlock = some g → v.ownBlock = some g ∨ w.heap.size ≤ g) := by
  have hown0 := hown
  rcases hown.2 with ⟨rfl, rfl⟩ | ⟨g, cap, cur, fz, rfl, hbg, hg, hfz, hnc, hcm, hcs, htake⟩
  · obtain ⟨v', w', hr, h2, h3, _⟩ := Lib.run_append_own_stringF (P := P) w w.heap.size t u ty e i ht hu hi hz hsize hby (.slice none 0 0) 0 xs ⟨hown.1, .inl ⟨rfl, rfl⟩⟩ s h63 hbytes (Nat.le_refl _)
    refine ⟨v', w', hr, ⟨h2.1, ?_⟩, h3, fun k hk => .inr (h2.lt k hk).1⟩
    rcases h2.2 with h4 | ⟨g, cap, cur, fz, q1, q2, q3⟩
    · exact .inl h4
    · exact .inr ⟨g, cap, cur, fz, q1, Nat.zero_le _, q3⟩
  · obtain ⟨v', w', hr, h2, h3, _⟩ := Lib.run_append_own_stringF (P := P) w 0 t u ty e i ht hu hi hz hsize hby (.slice (some ⟨g, 0, none⟩) n cap) n xs hown0 s h63 hbytes (Nat.zero_le _)
    refine ⟨v', w', hr, h2, h3, fun k hk => ?_⟩
    have hxl : xs.length = n := by simpa using hown.1
    have hsm : n + s.size ≤ 9223372036854775807 := by simp only [maxLen] at h63; omega
    by_cases hroom : n + s.size ≤ cap
    · have hr2 := Lib.run_append_room_stringF (P := P) w t u ty e i ht hu hi hsize g n cap cur fz hg (by simpa using hfz) s hroom (by rw [hcs]; omega)
      rw [hr] at hr2
      injection hr2 with e1 e2
      subst e1
      exact .inl hk
    · have hr2 := Lib.run_append_grow_string (P := P) w t u ty e i (.int .u8 0) ht hu hi hz ⟨g, 0, none⟩ n cap xs (by rw [hsize]; simpa using hxl) (hown.cells (g := g) rfl) s (by omega) (by omega) (by rw [hby]; exact growslice_fits (by omega) (by omega))
      rw [hr] at hr2
      injection hr2 with e1 e2
      subst e1
      simp only [Value.ownBlock, Option.some.injEq] at hk
      exact .inr (by rw [← hk]; exact Nat.le_refl _)
/-- An append of a row of cells. -/
theorem run_app_row (w : World) (t ty e : TypeId) (i : TypeInfo) (z : Value) (ht : P.underlying t = some (.slice e)) (hi : P.info? e = some i) (hz : i.zero = some z) (hsize : i.size = 1) (hby : i.bytes = 1) (hzs : z.cells.size = 1)
    (v : Value) (n : Nat) (xs : List Value) (hown : w.ownsRowF 0 e 1 v n xs) (a : Addr) (m c : Nat) (news : List Value) (hl : news.length = m * 1) (hnews : ∀ j u, news[j]? = some u → w.cell? (a.add j) = some u) (h1 : ∀ u ∈ news, u.oneCell' = true)
    (h63 : n + m ≤ maxLen) (hbytes : (n + m) * 1 ≤ 140737488355328) :
    ∃ v' w', (Builtin.append_ #[t, t] ty #[v, .slice (some a) m c]).run P w = .ok v' w' ∧ w'.ownsRowF 0 e 1 v' (n + m) (xs ++ news) ∧ w.grownBy w' v.ownBlock ∧ (∀ g, v'.ownBlock = some g → v.ownBlock = some g ∨ w.heap.size ≤ g) := by
  have hown0 := hown
  rcases hown.2 with ⟨rfl, rfl⟩ | ⟨g, cap, cur, fz, rfl, hbg, hg, hfz, hnc, hcm, hcs, htake⟩
  · obtain ⟨v', w', hr, h2, h3, _⟩ := run_append_ownF (P := P) w w.heap.size t ty e i z 1 1 ht hi hz hsize hby hzs (by decide) (.slice none 0 0) 0 xs ⟨hown.1, .inl ⟨rfl, rfl⟩⟩ a m c news hl hnews h1 h63 hbytes (Nat.le_refl _)
    refine ⟨v', w', hr, ⟨h2.1, ?_⟩, h3, fun k hk => .inr (h2.lt k hk).1⟩
    rcases h2.2 with h4 | ⟨g, cap, cur, fz, q1, q2, q3⟩
    · exact .inl h4
    · exact .inr ⟨g, cap, cur, fz, q1, Nat.zero_le _, q3⟩
  · obtain ⟨v', w', hr, h2, h3, _⟩ := run_append_ownF (P := P) w 0 t ty e i z 1 1 ht hi hz hsize hby hzs (by decide) (.slice (some ⟨g, 0, none⟩) n cap) n xs hown0 a m c news hl hnews h1 h63 hbytes (Nat.zero_le _)
    refine ⟨v', w', hr, h2, h3, fun k hk => ?_⟩
    have hsm : n + m ≤ 9223372036854775807 := by simp only [maxLen] at h63; omega
    by_cases hroom : n + m ≤ cap
    · have hr2 := run_append_roomF (P := P) w t ty e i ht hi g n cap cur fz hg (by rw [hsize]; exact hfz) a m c news (by rw [hsize]; exact hl) hnews h1 hroom (by rw [hsize, hl, hcs]; omega)
      rw [hr] at hr2
      injection hr2 with e1 e2
      subst e1
      exact .inl hk
    · have hr2 := run_append_grow (P := P) w t ty e i z ht hi hz ⟨g, 0, none⟩ n cap xs (by rw [hsize]; exact hown.1) (hown.cells (g := g) rfl) a m c news (by rw [hsize]; exact hl) hnews (by omega) (by omega) (by rw [hby]; exact growslice_fits (by omega) hbytes)
      rw [hr] at hr2
      injection hr2 with e1 e2
      subst e1
      simp only [Value.ownBlock, Option.some.injEq] at hk
      exact .inr (by rw [← hk]; exact Nat.le_refl _)
theorem wp_app_str {ops : Array Oper} {rest : List Oper} {o : Oper} {a : Act} {Q : Exit → Act → World → Prop} {w : World} (hgd : o.guard = none) (sl x : Operand) (t u : TypeId) (ho : o.op = .call { callee := .builtin .append, args := #[sl, x], argTypes := #[t, u] })
    (e : TypeId) (i : TypeInfo) (ht : P.underlying t = some (.slice e)) (hu : P.underlying u = some .string) (hi : P.info? e = some i) (hz : i.zero = some (.int .u8 0)) (hsize : i.size = 1) (hby : i.bytes = 1)
    (v : Value) (n : Nat) (xs : List Value) (hs : a.eval sl = v) (hown : w.ownsRowF 0 e 1 v n xs) (s : ByteArray) (hx : a.eval x = .string s) (h63 : n + s.size ≤ maxLen) (hbytes : n + s.size ≤ 140737488355328)
    (h : ∀ v' w', w'.ownsRowF 0 e 1 v' (n + s.size) (xs ++ Lib.strCells s) → w.grownBy w' v.ownBlock → (∀ g, v'.ownBlock = some g → v.ownBlock = some g ∨ w.heap.size ≤ g) → wpList P ops Q rest (a.put o.dst v') w') : wpList P ops Q (o :: rest) a w := by
  refine wpList_plain hgd fun K hK => ?_
  obtain ⟨v', w', hr, h2, h3, h4⟩ := run_app_str (P := P) w t u o.type e i ht hu hi hz hsize hby v n xs hown s h63 hbytes
  unfold Oper.wp execOp
  simp only [ho, resolve, invoke, builtin, Sem.run_bind, Sem.run_pure, Result.andThen_ok, List.map_toArray, List.map_cons, List.map_nil, hs, hx, hr]
  exact hK _ _ (h v' w' h2 h3 h4)
theorem wp_app_row {ops : Array Oper} {rest : List Oper} {o : Oper} {a : Act} {Q : Exit → Act → World → Prop} {w : World} (hgd : o.guard = none) (sl x : Operand) (t : TypeId) (ho : o.op = .call { callee := .builtin .append, args := #[sl, x], argTypes := #[t, t] })
    (e : TypeId) (i : TypeInfo) (z : Value) (ht : P.underlying t = some (.slice e)) (hi : P.info? e = some i) (hz : i.zero = some z) (hsize : i.size = 1) (hby : i.bytes = 1) (hzs : z.cells.size = 1)
    (v : Value) (n : Nat) (xs : List Value) (hs : a.eval sl = v) (hown : w.ownsRowF 0 e 1 v n xs) (ad : Addr) (m c : Nat) (news : List Value) (hx : a.eval x = .slice (some ad) m c) (hl : news.length = m * 1) (hnews : ∀ j u, news[j]? = some u → w.cell? (ad.add j) = some u)
    (h1 : ∀ u ∈ news, u.oneCell' = true) (h63 : n + m ≤ maxLen) (hbytes : (n + m) * 1 ≤ 140737488355328)
    (h : ∀ v' w', w'.ownsRowF 0 e 1 v' (n + m) (xs ++ news) → w.grownBy w' v.ownBlock → (∀ g, v'.ownBlock = some g → v.ownBlock = some g ∨ w.heap.size ≤ g) → wpList P ops Q rest (a.put o.dst v') w') : wpList P ops Q (o :: rest) a w := by
  refine wpList_plain hgd fun K hK => ?_
  obtain ⟨v', w', hr, h2, h3, h4⟩ := run_app_row (P := P) w t o.type e i z ht hi hz hsize hby hzs v n xs hown ad m c news hl hnews h1 h63 hbytes
  unfold Oper.wp execOp
  simp only [ho, resolve, invoke, builtin, Sem.run_bind, Sem.run_pure, Result.andThen_ok, List.map_toArray, List.map_cons, List.map_nil, hs, hx, hr]
  exact hK _ _ (h v' w' h2 h3 h4)

set_option maxHeartbeats 2000000 in
set_option maxRecDepth 100000 in
theorem held_string (L : Lays.n166 P ρ) (X : Builder.Extra P ρ) {b : Nat} {p v : Value} {s : List UInt8} {w : World} (hp : p = .pointer none ∨ p = self b) (h : Held (ρ.t 72) (ρ.t 5) b p v s w) (x : List UInt8)
    (hlen : s.length + x.length ≤ 140737488355328) :
    Calls P (ρ.f 166) #[.pointer (some ⟨b, 0, none⟩), .string ⟨x.toArray⟩] w fun e w' => e = .returned (.tuple #[.int .i64 x.length, .nilIface]) ∧
      ∃ v', Held (ρ.t 72) (ρ.t 5) b (self b) v' (s ++ x) w' ∧ Keeps (fun k => k = b ∨ v.ownBlock = some k) w w' ∧ (∀ g, v'.ownBlock = some g → v.ownBlock = some g ∨ w.heap.size ≤ g) := by
  obtain ⟨i0, hi, hz0, hz1, hz2⟩ := info_parts X.infoByte
  have mixed := L.mixed
  have t72 := L.t72; have a72 := L.a72; have z72 := L.z72; have v72 := L.v72; have u72 := run_underlying L.t72
  have t70 := L.t70; have a70 := L.a70; have z70 := L.z70; have v70 := L.v70; have u70 := run_underlying L.t70
  have t37 := L.t37; have a37 := L.a37; have z37 := L.z37; have v37 := L.v37; have u37 := run_underlying L.t37
  have t3 := L.t3; have a3 := L.a3; have z3 := L.z3; have v3 := L.v3; have u3 := run_underlying L.t3
  have t9 := L.t9; have a9 := L.a9; have z9 := L.z9; have v9 := L.v9; have u9 := run_underlying L.t9
  have t5 := X.t5; have a5 := X.a5; have z5 := X.z5; have v5 := X.v5; have u5 := run_underlying X.t5
  have e240 : ∀ args w, (callFunc (ρ.f 240) args).run P w = .ok (.enter (ρ.f 240) args) w := enters_of L.f240 (by kernel_rfl) rfl
  go_enter L.f166, Body.n166_ntmps ρ
  go_wp2_with (go_at_fn (ρ.f 240); refine (held_check { L with } X.toX72 hp h).mono ?_)
  rintro e w1 ⟨rfl, h1, hk1⟩
  have c0 : w1.cell? ⟨b, 0, none⟩ = some (self b) := by rw [Lib.cell_of_heap h1.cells]; rfl
  have c1 : w1.cell? ⟨b, 1, none⟩ = some v := by rw [Lib.cell_of_heap h1.cells]; rfl
  go_wp2_with (at_builtin; refine wp_app_str rfl _ _ (ρ.t 37) (ρ.t 9) rfl (ρ.t 5) i0 L.t37 L.t9 hi hz0 hz1 hz2 _ _ _ rfl h1.own ⟨x.toArray⟩ rfl ?k1 ?k2 ?_)
  case k1 => unfold maxLen; show _ + x.toArray.size ≤ _; rw [List.size_toArray]; omega
  case k2 => show _ + x.toArray.size ≤ _; rw [List.size_toArray]; omega
  intro v' w2 ho' hgrow hold
  have ho2 : w2.ownsRowF 0 (ρ.t 5) 1 v' (s ++ x).length (bytesV (s ++ x)) := by
    have := ho'
    rw [strCells_bytes] at this
    simpa [bytesV] using this
  obtain ⟨r1, r2⟩ := held_put h1 hk1 hgrow X.neB5 ho2
  have hb2 : w2.heap[b]? = some (.cells #[self b, v] (ρ.t 72) (0, 0)) := by
    rw [hgrow.block b h1.lt (fun e => h1.ne e.symm)]; exact h1.cells
  have d0 : w2.cell? ⟨b, 0, none⟩ = some (self b) := by rw [Lib.cell_of_heap hb2]; rfl
  have d1 : w2.cell? ⟨b, 1, none⟩ = some v := by rw [Lib.cell_of_heap hb2]; rfl
  have f1 : w2.frozen? ⟨b, 1, none⟩ = false := Lib.frozen_of_heap hb2 1
  obtain ⟨ao, n', cap, rfl⟩ : ∃ ao n' cap, v' = .slice ao n' cap := by
    rcases ho'.2 with ⟨hv, _⟩ | ⟨g, cap, cur, fz, hv, _⟩
    · exact ⟨_, _, _, hv⟩
    · exact ⟨_, _, _, hv⟩
  go_wp2
  go_ret2
  refine ⟨?_, _, r1, r2, fun g hg => ?_⟩
  · rfl
  · exact (hold g hg).imp id fun h5 => Nat.le_trans hk1.size h5

theorem freeze_keep (w : World) (g : Nat) {n : Nat} (hn : n ≠ 0) : Keeps (fun k => k = g) w (w.freeze ⟨g, 0, none⟩ n) := by
  unfold World.freeze
  rw [if_neg hn]
  exact ⟨rfl, rfl, rfl, by simp, fun k _ hk => by simp [Array.getElem?_modify, Ne.symm hk]⟩
theorem Held.alloc {T e : TypeId} {b : Nat} {p v : Value} {s : List UInt8} {w : World} (h : Held T e b p v s w) (o : Obj) : Held T e b p v s (w.alloc o) :=
  ⟨by rw [Lib.alloc_old w o b h.lt]; exact h.cells, h.own.alloc o, h.ne⟩
set_option maxHeartbeats 2000000 in
set_option maxRecDepth 100000 in
theorem held_byte (L : Lays.n167 P ρ) (X : Builder.Extra P ρ) {b : Nat} {p v : Value} {s : List UInt8} {w : World} (hp : p = .pointer none ∨ p = self b) (h : Held (ρ.t 72) (ρ.t 5) b p v s w) (x : UInt8)
    (hlen : s.length + 1 ≤ 140737488355328) :
    Calls P (ρ.f 167) #[.pointer (some ⟨b, 0, none⟩), .int .u8 x.toNat] w fun e w' => e = .returned .nilIface ∧
      ∃ v', Held (ρ.t 72) (ρ.t 5) b (self b) v' (s ++ [x]) w' ∧ Keeps (fun k => k = b ∨ v.ownBlock = some k) w w' ∧ (∀ g, v'.ownBlock = some g → v.ownBlock = some g ∨ w.heap.size ≤ g) := by
  obtain ⟨i0, hi, hz0, hz1, hz2⟩ := info_parts X.infoByte
  have mixed := L.mixed
  have t72 := L.t72; have a72 := L.a72; have z72 := L.z72; have v72 := L.v72; have u72 := run_underlying L.t72
  have t70 := L.t70; have a70 := L.a70; have z70 := L.z70; have v70 := L.v70; have u70 := run_underlying L.t70
  have t5 := L.t5; have a5 := L.a5; have z5 := L.z5; have v5 := L.v5; have u5 := run_underlying L.t5
  have t37 := L.t37; have a37 := L.a37; have z37 := L.z37; have v37 := L.v37; have u37 := run_underlying L.t37
  have e240 : ∀ args w, (callFunc (ρ.f 240) args).run P w = .ok (.enter (ρ.f 240) args) w := enters_of L.f240 (by kernel_rfl) rfl
  go_enter L.f167, Body.n167_ntmps ρ
  go_wp2_with (go_at_fn (ρ.f 240); refine (held_check { L with } X.toX72 hp h).mono ?_)
  rintro e w1 ⟨rfl, h1, hk1⟩
  have c0 : w1.cell? ⟨b, 0, none⟩ = some (self b) := by rw [Lib.cell_of_heap h1.cells]; rfl
  have c1 : w1.cell? ⟨b, 1, none⟩ = some v := by rw [Lib.cell_of_heap h1.cells]; rfl
  go_wp2_with (at_builtin; refine wp_app_row rfl _ _ (ρ.t 37) rfl (ρ.t 5) i0 (.int .u8 0) L.t37 hi hz0 hz1 hz2 rfl _ _ _ rfl (h1.own.alloc _) ⟨w1.heap.size, 0, none⟩ 1 1 [.int .u8 x.toNat] rfl rfl ?k1 ?k2 ?k3 ?k4 ?_)
  case k1 =>
    intro j u hj
    match j, hj with
    | 0, hj => simp at hj; subst hj; simp [Addr.add]
  case k2 => intro u hu; simp at hu; subst hu; rfl
  case k3 => unfold maxLen; omega
  case k4 => omega
  intro v' w2 ho' hgrow hold
  have ho2 : w2.ownsRowF 0 (ρ.t 5) 1 v' (s ++ [x]).length (bytesV (s ++ [x])) := by simpa [bytesV] using ho'
  obtain ⟨r1, r2⟩ := held_put (h1.alloc _) (hk1.trans (Keeps.alloc _ _ _)) hgrow X.neB5 ho2
  have hb2 : w2.heap[b]? = some (.cells #[self b, v] (ρ.t 72) (0, 0)) := by
    rw [hgrow.block b (h1.alloc _).lt (fun e => h1.ne e.symm)]; exact (h1.alloc _).cells
  have d0 : w2.cell? ⟨b, 0, none⟩ = some (self b) := by rw [Lib.cell_of_heap hb2]; rfl
  have d1 : w2.cell? ⟨b, 1, none⟩ = some v := by rw [Lib.cell_of_heap hb2]; rfl
  have f1 : w2.frozen? ⟨b, 1, none⟩ = false := Lib.frozen_of_heap hb2 1
  obtain ⟨ao, n', cap, rfl⟩ : ∃ ao n' cap, v' = .slice ao n' cap := by
    rcases ho'.2 with ⟨hv, _⟩ | ⟨g, cap, cur, fz, hv, _⟩
    · exact ⟨_, _, _, hv⟩
    · exact ⟨_, _, _, hv⟩
  go_wp2
  go_ret
  refine ⟨rfl, _, r1, r2, fun g hg => ?_⟩
  refine (hold g hg).imp id fun h5 => Nat.le_trans hk1.size (Nat.le_trans ?_ h5)
  simp

set_option maxHeartbeats 2000000 in
set_option maxRecDepth 100000 in
theorem held_text (L : Lays.n169 P ρ) (X : Builder.Extra P ρ) {b : Nat} {p v : Value} {s : List UInt8} {w : World} (h : Held (ρ.t 72) (ρ.t 5) b p v s w) (h0 : s ≠ []) :
    Calls P (ρ.f 169) #[.pointer (some ⟨b, 0, none⟩)] w fun e w' => e = .returned (.string ⟨s.toArray⟩) ∧ Held (ρ.t 72) (ρ.t 5) b p v s w' ∧ Keeps (fun k => k = b ∨ v.ownBlock = some k) w w' := by
  have hl0 : s.length ≠ 0 := by simpa using h0
  obtain ⟨g, cap, cur, fz, hv, _, hg, hfz, hnc, hcm, hcs, htake⟩ : ∃ g cap cur fz, v = .slice (some ⟨g, 0, none⟩) s.length cap ∧ 0 ≤ g ∧ w.heap[g]? = some (.cells cur (ρ.t 5) fz) ∧ fz.2 ≤ s.length * 1 ∧ s.length ≤ cap ∧ cap ≤ maxLen ∧ cur.size = cap * 1 ∧ cur.toList.take (s.length * 1) = bytesV s := by
    rcases h.own.2 with ⟨_, hz⟩ | ⟨g, cap, cur, fz, hv, r⟩
    · exact absurd hz hl0
    · exact ⟨g, cap, cur, fz, hv, r⟩
  have hgb : g ≠ b := fun e => h.ne (by rw [hv, e]; rfl)
  have c1 : w.drew.cell? ⟨b, 1, none⟩ = some (.slice (some ⟨g, 0, none⟩) s.length cap) := by
    have : w.drew.heap[b]? = some (.cells #[p, v] (ρ.t 72) (0, 0)) := h.cells
    rw [Lib.cell_of_heap this, hv]; rfl
  have hSD : (Builtin.unsafeSliceData_ #[(ρ.t 37)] (ρ.t 127) #[.slice (some ⟨g, 0, none⟩) s.length cap]).run P w.drew = .ok (.pointer (some ⟨g, 0, none⟩)) w.drew :=
    Lib.run_unsafeSliceData_row _ _ _ _ _ _ (by omega)
  have hUS : (Builtin.unsafeString_ #[(ρ.t 127), (ρ.t 3)] (ρ.t 9) #[.pointer (some ⟨g, 0, none⟩), .int .i64 s.length]).run P w.drew = .ok (.string ⟨s.toArray⟩) (w.drew.freeze ⟨g, 0, none⟩ s.length) := by
    refine Lib.run_unsafeString_row w.drew (ρ.t 127) (ρ.t 3) (ρ.t 9) (ρ.t 5) L.t127 X.cellsByte g cur.size (by have hg' : w.drew.heap[g]? = some (.cells cur (ρ.t 5) fz) := hg; simp [World.shape?, hg']) s h0 (by omega) (by unfold maxLen at hcm; omega) ?_
    intro j x hx
    have := h.own.cells (g := g) (by rw [hv]; rfl) j (.int .u8 x.toNat) (by simp [bytesV, hx])
    exact this
  have hkeep : Held (ρ.t 72) (ρ.t 5) b p v s (w.drew.freeze ⟨g, 0, none⟩ s.length) := by
    have hA : Lib.BuilderAtF (ρ.t 72) (ρ.t 5) 0 b p (bytesV s) w.drew := h.at_
    have hF := hA.froze (g := g) (cap := cap) (by rw [bytesV_length]; exact c1)
    rw [bytesV_length] at hF
    obtain ⟨_, u, q1, q2, q3⟩ := hF
    have hu : u = v := by
      have hk2 : (w.drew.freeze ⟨g, 0, none⟩ s.length).heap[b]? = some (.cells #[p, v] (ρ.t 72) (0, 0)) := by
        rw [show (w.drew.freeze ⟨g, 0, none⟩ s.length).heap[b]? = w.heap[b]? from (freeze_keep w.drew g hl0).block b h.lt (Ne.symm hgb)]; exact h.cells
      rw [q1] at hk2
      simp only [Option.some.injEq, Obj.cells.injEq] at hk2
      have h := congrArg (·[1]?) hk2.1
      simpa using h
    subst hu
    exact ⟨q1, by rw [bytesV_length] at q2; exact q2, q3⟩
  have hks : Keeps (fun k => k = b ∨ v.ownBlock = some k) w (w.drew.freeze ⟨g, 0, none⟩ s.length) :=
    ((Keeps.drew (fun k => k = g) w).trans (freeze_keep w.drew g hl0)).mono fun k _ e => .inr (by rw [hv, e]; rfl)
  have mixed := L.mixed
  have t72 := L.t72; have a72 := L.a72; have z72 := L.z72; have v72 := L.v72; have u72 := run_underlying L.t72
  have t70 := L.t70; have a70 := L.a70; have z70 := L.z70; have v70 := L.v70; have u70 := run_underlying L.t70
  have t37 := L.t37; have a37 := L.a37; have z37 := L.z37; have v37 := L.v37; have u37 := run_underlying L.t37
  have t127 := L.t127; have a127 := L.a127; have z127 := L.z127; have v127 := L.v127; have u127 := run_underlying L.t127
  have t3 := L.t3; have a3 := L.a3; have z3 := L.z3; have v3 := L.v3; have u3 := run_underlying L.t3
  have t9 := L.t9; have a9 := L.a9; have z9 := L.z9; have v9 := L.v9; have u9 := run_underlying L.t9
  have t5 := X.t5; have a5 := X.a5; have z5 := X.z5; have v5 := X.v5; have u5 := run_underlying X.t5
  go_enter L.f169, Body.n169_ntmps ρ
  go_wp2
  go_region_o
  all_goals (go_wp2; go_ret; exact ⟨rfl, hkeep, hks⟩)
end Pv
end Go.Proofs.YtgbknfbcjddnhaaDoor

/- THE LIBRARY's functions on texts: general forms of their contracts in the words of pure calls. -/
set_option linter.unusedSimpArgs false
set_option linter.unusedVariables false
namespace Go.Proofs.YtgbknfbcjddnhaaDoor
namespace Pv
open Go.RowKit

theorem ownsF_lt {w : World} {e z n : Nat} {v : Value} {vs : List Value} (h : w.ownsRowF 0 e z v n vs) : ∀ b, v.ownBlock = some b → b < w.heap.size := fun b hb => by
  rcases h.2 with ⟨h0, _⟩ | ⟨g, cap, cur, fz, h0, _, h2, _⟩
  · subst h0; cases hb
  · subst h0; injection hb with hb; subst hb
    exact (Array.getElem?_eq_some_iff.1 h2).1

/-- A method of the builder. -/
theorem pure_bld {P : Program} {f T e : Nat} {args : List PV} {us : List Value} {val : PV} {rv : Value} {s s' : List UInt8}
    (hfn : ∃ fn, P.funcs[f]? = some fn ∧ fn.body.isSome = true ∧ (fn.name == "runtime.NumGoroutine") = false)
    (hargs : ∀ (X : Cx) (γ : Gh) (w : World) (vals : List Value), RepL X γ w args vals → vals = us) (hval : ∀ (X : Cx) (γ : Gh) (w : World), Rep X γ w val rv)
    (h : ∀ (w : World) (b : Nat) (p v : Value), (p = .pointer none ∨ p = self b) → Held T e b p v s w →
      Calls P f (self b :: us).toArray w fun ev w' => ev = .returned rv ∧ ∃ p' v', (p' = .pointer none ∨ p' = self b) ∧ Held T e b p' v' s' w' ∧ Keeps (fun k => k = b ∨ v.ownBlock = some k) w w' ∧ (∀ g, v'.ownBlock = some g → v.ownBlock = some g ∨ w.heap.size ≤ g)) :
    PureCall P f (.pt 0 0 0 :: args) [.bld T e s] ⟨val, [.bld T e s'], []⟩ := by
  refine ⟨hfn, fun w γ as_ ls vals hst hX hr => ?_⟩
  obtain ⟨v0, us', rfl, hv, hus⟩ := hr.cons_inv
  have := hargs _ _ _ _ hus
  subst this
  obtain ⟨ge, b, hge, hgb, rfl⟩ := pt_inv hv
  obtain ⟨b', p, v, g1, g2, g3, g4, g5, g6⟩ := hst.at_ 0 ge (.bld T e s) hge rfl
  have hb : b' = b := by rw [g1] at hgb; injection hgb
  subst hb
  have hheld : Held T e b' p v s w := ⟨g4, g5, g6⟩
  have hself : Value.pointer (some ⟨b', 0 * ge.z + 0, none⟩) = self b' := by rw [Nat.zero_mul]; rfl
  rw [hself]
  refine (h w b' p v g3 hheld).mono ?_
  rintro ev w' ⟨he, p', v', hp', hH, hk, hold⟩
  have hnone : ∀ r, r ≠ 0 → γ r = none := fun r hr => by
    have := hst.dom r
    rw [List.getElem?_eq_none (by simp; omega)] at this
    simpa using this
  have hblt : b' < w.heap.size := hheld.lt
  let ge' : GE := ⟨some b', v', ge.z⟩
  have hhas : ∀ k, ge'.has k → ge.has k ∨ w.heap.size ≤ k := fun k hk => by
    rcases hk with hk | hk
    · exact .inl (.inl (by injection hk with hk; rw [← hk]; exact g1))
    · exact (hold k hk).imp (fun h => .inr (by rw [g2]; exact h)) id
  have hown : ∀ k, ge.has k → γ.own k := fun k hk => ⟨0, ge, hge, hk⟩
  have hown' : ∀ k, Gh.own (fun r => if r = 0 then some ge' else none) k → γ.own k ∨ w.heap.size ≤ k := fun k ⟨r, g, hr, hb⟩ => by
    by_cases h0 : r = 0
    · simp only [h0, if_true, Option.some.injEq] at hr
      subst hr
      exact (hhas k hb).imp (hown k) id
    · simp only [h0, if_false] at hr; cases hr
  have hkeep : Keeps γ.own w w' := hk.mono fun k _ hk => by
    rcases hk with rfl | hk
    · exact hown _ (.inl g1)
    · exact hown _ (.inr (by rw [g2]; exact hk))
  refine ⟨rv, fun r => if r = 0 then some ge' else none, he, hval _ _ _, ?_, hkeep, fun r hr => ?_, fun r g k hr hb => ?_⟩
  · refine ⟨fun r => ?_, fun r g se hr hs => ?_, fun r r' g g' k hr hr' _ _ => ?_, fun k hk => ?_, fun k ⟨r, g, hr, hb⟩ => ?_, ?_⟩
    rotate_right
    · exact glob_keep hst.glob (fun k hlt hn => hkeep.block k hlt hn) hown'
    · by_cases h : r = 0
      · subst h; rfl
      · simp only [h, if_false, resSt]
        by_cases h2 : newBase ≤ r
        · rw [if_pos h2]; rfl
        · rw [if_neg h2, List.getElem?_eq_none (by simp; omega)]; rfl
    · by_cases h : r = 0
      · subst h
        simp only [if_true, Option.some.injEq] at hr
        subst hr
        have hs' : some (SE.bld T e s') = some se := hs
        injection hs' with hs'
        subst hs'
        exact ⟨b', p', v', rfl, rfl, hp', hH.cells, hH.own, hH.ne⟩
      · simp only [h, if_false] at hr; cases hr
    · by_cases h : r = 0
      · by_cases h' : r' = 0
        · rw [h, h']
        · simp only [h', if_false] at hr'; cases hr'
      · simp only [h, if_false] at hr; cases hr
    · rcases hown' k hk with h | h
      · exact hst.asOff k h
      · exact ⟨fun ha => by have := hX k (.inl ha); omega, fun ha => by have := hX k (.inr ha); omega⟩
    · by_cases h : r = 0
      · simp only [h, if_true, Option.some.injEq] at hr
        subst hr
        rcases hb with hb | hb
        · injection hb with hb; rw [← hb]; exact hH.lt
        · exact ownsF_lt hH.own k hb
      · simp only [h, if_false] at hr; cases hr
  · have h0 : r = 0 := by simp [nbx] at hr; exact hr
    subst h0
    exact ⟨ge', ge, rfl, hge, g1.symm, rfl⟩
  · by_cases h : r = 0
    · simp only [h, if_true, Option.some.injEq] at hr
      subst hr
      rcases hhas k hb with h1 | h1
      · exact .inr (.inr ⟨ge, by rw [h]; exact hge, h1⟩)
      · exact .inl h1
    · simp only [h, if_false] at hr; cases hr

/-- A call that changes nothing. -/
theorem pure_still {P : Program} {f : Nat} {args : List PV} {us : List Value} {val : PV} {rv : Value}
    (hfn : ∃ fn, P.funcs[f]? = some fn ∧ fn.body.isSome = true ∧ (fn.name == "runtime.NumGoroutine") = false)
    (hargs : ∀ (X : Cx) (γ : Gh) (w : World) (vals : List Value), RepL X γ w args vals → vals = us) (hval : ∀ (X : Cx) (γ : Gh) (w : World), Rep X γ w val rv)
    (h : ∀ (w : World), (∀ b p, Pv.glob b = some p → ∃ o, w.heap[b]? = some o ∧ p o) → Calls P f us.toArray w fun ev w' => ev = .returned rv ∧ Keeps (fun _ => False) w w') :
    PureCall P f args [] ⟨val, [], []⟩ := by
  refine ⟨hfn, fun w γ as_ ls vals hst hX hr => ?_⟩
  have := hargs _ _ _ _ hr
  subst this
  refine (h w fun b p hb => (hst.glob b p hb).1).mono ?_
  rintro ev w' ⟨he, hk⟩
  have hnone : ∀ r, γ r = none := fun r => by
    have := hst.dom r
    simpa using this
  have hno : ∀ b, ¬ γ.own b := fun b ⟨r, ge, hr, _⟩ => by rw [hnone r] at hr; cases hr
  have hkeep : Keeps γ.own w w' := hk.mono fun k _ h => h.elim
  refine ⟨rv, γ, he, hval _ _ _, ?_, hkeep, fun r hr => by simp [nbx] at hr, fun r ge b hr hb => by rw [hnone r] at hr; cases hr⟩
  refine ⟨fun r => ?_, fun r ge se hr hs => (by rw [hnone r] at hr; cases hr), fun r r' ge ge' b hr => (by rw [hnone r] at hr; cases hr), fun b hb => absurd hb (hno b), fun b hb => absurd hb (hno b), ?_⟩
  · rw [hnone r]; unfold resSt
    split <;> rfl
  · exact glob_keep hst.glob (fun k hlt hn => hkeep.block k hlt hn) fun b hb => .inl hb

/-- A call that gives a new slice and changes nothing else, whatever its cells are. -/
theorem pure_new2 {P : Program} {f : Nat} {args : List PV} {us : List Value} {e z n : Nat} {g : Nat → List PV} {vs : List Value}
    (hfn : ∃ fn, P.funcs[f]? = some fn ∧ fn.body.isSome = true ∧ (fn.name == "runtime.NumGoroutine") = false)
    (hargs : ∀ (X : Cx) (γ : Gh) (w : World) (vals : List Value), RepL X γ w args vals → vals = us) (hrows : ∀ (X : Cx) (γ : Gh) (w : World), RowsRep X γ w 0 z n g vs)
    (h : ∀ (w : World), (∀ b p, Pv.glob b = some p → ∃ o, w.heap[b]? = some o ∧ p o) →
      Calls P f us.toArray w fun ev w' => ∃ v', ev = .returned v' ∧ w'.ownsRow w.heap.size e z v' n vs ∧ Keeps (fun _ => False) w w') :
    PureCall P f args [] ⟨.os 1000000000, [], [.row 0 e z n g]⟩ := by
  refine ⟨hfn, fun w γ as_ ls vals hst hX hr => ?_⟩
  have := hargs _ _ _ _ hr
  subst this
  refine (h w fun b p hb => (hst.glob b p hb).1).mono ?_
  rintro ev w' ⟨v', he, ho, hk⟩
  have ho0 : OwnsG w' e z v' n vs := OwnsG_of ho
  have hone : v'.oneCell' = true := slice_one ho0
  have hblk : ∀ b, v'.ownBlock = some b → w.heap.size ≤ b ∧ b < w'.heap.size := fun b hb => by
    refine ⟨?_, own_lt' ho0 b hb⟩
    rcases ho.2 with ⟨h0, _⟩ | ⟨g, cap, cur, h0, h1, _⟩
    · subst h0; cases hb
    · subst h0; injection hb with hb; subst hb; exact h1
  have hnone : ∀ r, γ r = none := fun r => by
    have := hst.dom r
    simpa using this
  refine ⟨v', fun r => if r = 1000000000 then some ⟨v'.ownBlock, v', z⟩ else none, he, .os _ ⟨v'.ownBlock, v', z⟩ (by simp) hone rfl, ?_, ⟨hk.os, hk.tape, hk.output, hk.size, fun b hb _ => hk.block b hb (fun h => h)⟩, fun r hr => by simp [nbx] at hr, fun r ge b hr hb => ?_⟩
  · refine ⟨fun r => ?_, fun r ge se hr hs => ?_, fun r r' ge ge' b hr hr' _ _ => ?_, fun b ⟨r, ge, hr, hb⟩ => ?_, fun b ⟨r, ge, hr, hb⟩ => ?_, ?_⟩
    rotate_right
    · refine glob_keep hst.glob (fun b hlt _ => hk.block b hlt (fun h => h)) (fun b ⟨r, ge, hr, hb⟩ => ?_)
      by_cases h : r = 1000000000
      · simp only [h, if_true, Option.some.injEq] at hr
        subst hr
        exact .inr (hblk b ((GE.has_row rfl).1 hb)).1
      · simp only [h, if_false] at hr; cases hr
    · by_cases h : r = 1000000000
      · subst h; simp [resSt, newBase]
      · simp only [h, if_false, resSt]
        by_cases h2 : newBase ≤ r
        · have : 1 ≤ r - newBase := by unfold newBase at *; omega
          rw [if_pos h2, List.getElem?_eq_none (by simpa using this)]; rfl
        · rw [if_neg h2]; simp
    · by_cases h : r = 1000000000
      · subst h
        simp only [if_true, Option.some.injEq] at hr
        subst hr
        simp [resSt, newBase] at hs
        subst hs
        exact (hrows _ _ _).repS rfl rfl hone ho0
      · simp only [h, if_false] at hr; cases hr
    · by_cases h : r = 1000000000
      · by_cases h' : r' = 1000000000
        · rw [h, h']
        · simp only [h', if_false] at hr'; cases hr'
      · simp only [h, if_false] at hr; cases hr
    · by_cases h : r = 1000000000
      · simp only [h, if_true, Option.some.injEq] at hr
        subst hr
        have := (hblk b ((GE.has_row rfl).1 hb)).1
        exact ⟨fun ha => by have := hX b (.inl ha); omega, fun ha => by have := hX b (.inr ha); omega⟩
      · simp only [h, if_false] at hr; cases hr
    · by_cases h : r = 1000000000
      · simp only [h, if_true, Option.some.injEq] at hr
        subst hr
        exact (hblk b ((GE.has_row rfl).1 hb)).2
      · simp only [h, if_false] at hr; cases hr
  · by_cases h : r = 1000000000
    · simp only [h, if_true, Option.some.injEq] at hr
      subst hr
      exact .inl (hblk b ((GE.has_row rfl).1 hb)).1
    · simp only [h, if_false] at hr; cases hr

/-! ## texts in a slice -/
def eStr (s : List UInt8) : List PV := [.str s]
def strV (s : List UInt8) : Value := .string ⟨s.toArray⟩
theorem strs_rows {X : Cx} {γ : Gh} {w : World} (l : List (List UInt8)) : RowsRep X γ w 0 1 l.length (fl eStr l) (l.map strV) := by
  refine ⟨by simp, fun u hu => ?_, fun i hi => rfl, fun i hi c hc => ?_, fun i j c u hi hc hu => ?_⟩
  · obtain ⟨n, _, rfl⟩ := List.mem_map.1 hu; rfl
  · have : c = .str (l.getD i default) := by simpa [fl, eStr] using hc
    subst this; rfl
  · have hj : j = 0 := by
      have := (List.getElem?_eq_some_iff.1 hc).1
      simp [fl, eStr] at this; omega
    subst hj
    have : c = .str (l.getD i default) := by
      have h0 : some (PV.str (l.getD i default)) = some c := hc
      injection h0 with h0; exact h0.symm
    subst this
    rw [Nat.mul_one, Nat.add_zero, List.getElem?_map, getD_some hi] at hu
    injection hu with hu; subst hu
    exact .str _
end Pv
end Go.Proofs.YtgbknfbcjddnhaaDoor

/- PLAIN: texts cut at a byte. -/
set_option linter.unusedSimpArgs false
set_option linter.unusedVariables false
namespace Go.Proofs.YtgbknfbcjddnhaaDoor
namespace Pv

/-- Cut at each c. -/
def splitC (c : UInt8) : List UInt8 → List (List UInt8)
  | [] => [[]]
  | x :: xs => if x = c then [] :: splitC c xs else match splitC c xs with
    | [] => [[x]]
    | h :: t => (x :: h) :: t
/-- Cut at the first c. -/
def brkC (c : UInt8) : List UInt8 → List UInt8 × List UInt8 × Bool
  | [] => ([], [], false)
  | x :: xs => if x = c then ([], xs, true) else (x :: (brkC c xs).1, (brkC c xs).2)

theorem splitC_ne (c : UInt8) (s : List UInt8) : splitC c s ≠ [] := by
  cases s with
  | nil => simp [splitC]
  | cons x xs =>
    unfold splitC
    split
    · simp
    · split <;> simp
theorem splitC_brk (c : UInt8) : ∀ s : List UInt8, splitC c s = if (brkC c s).2.2 = true then (brkC c s).1 :: splitC c (brkC c s).2.1 else [s]
  | [] => rfl
  | x :: xs => by
    by_cases h : x = c
    · simp [splitC, brkC, h]
    · have ih := splitC_brk c xs
      simp only [splitC, brkC, if_neg h]
      by_cases h2 : (brkC c xs).2.2 = true
      · rw [if_pos h2] at ih ⊢
        rw [ih]
      · rw [if_neg h2] at ih ⊢
        rw [ih]
theorem brkC_len (c : UInt8) : ∀ s : List UInt8, (brkC c s).1.length ≤ s.length ∧ (brkC c s).2.1.length ≤ s.length ∧ ((brkC c s).2.2 = true → (brkC c s).1.length + 1 + (brkC c s).2.1.length = s.length)
  | [] => by simp [brkC]
  | x :: xs => by
    have ih := brkC_len c xs
    unfold brkC
    split
    · simp; omega
    · simp only [List.length_cons]
      refine ⟨by omega, by omega, fun h => ?_⟩
      have := ih.2.2 h
      omega
theorem splitC_len (c : UInt8) : ∀ s : List UInt8, (splitC c s).length ≤ s.length + 1 ∧ ∀ x ∈ splitC c s, x.length ≤ s.length
  | [] => by simp [splitC]
  | x :: xs => by
    have ih := splitC_len c xs
    unfold splitC
    split
    · refine ⟨by simp; omega, fun y hy => ?_⟩
      rcases List.mem_cons.1 hy with rfl | hy
      · simp
      · have := ih.2 y hy; simp; omega
    · split
      · simp
      · rename_i h t e
        rw [e] at ih
        refine ⟨by simp at ih ⊢; omega, fun y hy => ?_⟩
        rcases List.mem_cons.1 hy with rfl | hy
        · have := ih.2 h (by simp); simp; omega
        · have := ih.2 y (by simp [hy]); simp; omega

theorem index_cons_eq (c : UInt8) (l : List UInt8) : Lib.index (c :: l) [c] = 0 := by rw [Lib.index]; simp [List.isPrefixOf]
theorem index_cons_ne (b c : UInt8) (l : List UInt8) (h : b ≠ c) : Lib.index (b :: l) [c] = if Lib.index l [c] == -1 then -1 else Lib.index l [c] + 1 := by
  have hp : ([c] : List UInt8).isPrefixOf (b :: l) = false := by simp [List.isPrefixOf, Ne.symm h]
  rw [Lib.index, hp]; simp
theorem cut_brk (c : UInt8) : ∀ s : List UInt8, Lib.cut s [c] = brkC c s
  | [] => by simp [Lib.cut, Lib.index, brkC]
  | b :: l => by
    have ih := cut_brk c l
    have hge := Lib.index_ge l [c]
    by_cases h : b = c
    · subst h
      unfold Lib.cut brkC
      rw [index_cons_eq, if_pos (by decide), if_pos rfl]
      rfl
    · unfold brkC
      rw [if_neg h, ← ih]
      unfold Lib.cut
      rw [index_cons_ne b c l h]
      by_cases hm : Lib.index l [c] = -1
      · rw [hm]; rfl
      · obtain ⟨j, hj⟩ : ∃ j : Nat, Lib.index l [c] = j := ⟨(Lib.index l [c]).toNat, by omega⟩
        have e0 : (if (Lib.index l [c] == -1) = true then (-1 : Int) else Lib.index l [c] + 1) = (j : Int) + 1 := by rw [if_neg (by simpa using hm), hj]
        rw [e0, hj, if_pos (by omega), if_pos (by omega)]
        have e1 : ((j : Int) + 1).toNat = j + 1 := by omega
        have e2 : (j : Int).toNat = j := by omega
        rw [e1, e2]
        simp [Nat.add_assoc]
theorem splitK_C (c : UInt8) : ∀ s : List UInt8, Lib.splitK [c] 0 (Lib.count s [c]) s = splitC c s
  | [] => by rw [Lib.count_one]; rfl
  | b :: l => by
    have ih := splitK_C c l
    have hge := Lib.index_ge l [c]
    by_cases h : b = c
    · subst h
      rw [Lib.count_cons_eq, Nat.add_comm, Lib.splitK, index_cons_eq]
      simp only [splitC, if_pos]
      have e : ((0 : Int) == -1) = false := by decide
      rw [e]
      simpa using ih
    · rw [Lib.count_cons_ne b c l h]
      unfold splitC
      rw [if_neg h, ← ih]
      by_cases hm : Lib.index l [c] = -1
      · rw [Lib.count_miss hm]
        rfl
      · obtain ⟨j, hj⟩ : ∃ j : Nat, Lib.index l [c] = j := ⟨(Lib.index l [c]).toNat, by omega⟩
        rw [Lib.count_hit (by simp) hj, Nat.add_comm, Lib.splitK, Lib.splitK, index_cons_ne b c l h, hj]
        have e1 : ((j : Int) == -1) = false := beq_eq_false_iff_ne.2 (by omega)
        have e2 : (((j : Int) + 1) == -1) = false := beq_eq_false_iff_ne.2 (by omega)
        have e3 : ((j : Int) + 1).toNat = j + 1 := by omega
        have e4 : (j : Int).toNat = j := by omega
        rw [e1]
        simp only [Bool.false_eq_true, if_false]
        rw [e2]
        simp only [Bool.false_eq_true, if_false, e3, e4, Nat.add_zero]
        simp [Nat.add_assoc, Nat.add_comm 1 1]
end Pv
end Go.Proofs.YtgbknfbcjddnhaaDoor

/- THE LIBRARY's strings.Builder AT THIS PROGRAM: the layings of its functions. -/
set_option linter.unusedSimpArgs false
set_option linter.unusedVariables false
namespace Go.Proofs.YtgbknfbcjddnhaaDoor
namespace Sh
open Go.Shelf
def lays240_ren : Go.Shelf.Ren := ⟨fun | 166 => 45 | 240 => 55 | 276 => 58 | 169 => 46 | n => n, fun | 70 => 75 | 72 => 77 | 37 => 41 | 75 => 79 | 80 => 83 | 164 => 97 | 127 => 91 | n => n, fun | n => n⟩
theorem lays240 : Go.Proofs.Lays.n240 Tryd.prog lays240_ren := {
  mixed := by kernel_rfl
  f240 := Tryd.func55.trans (congrArg some (by kernel_rfl))
  f276 := Tryd.func58.trans (congrArg some (by kernel_rfl))
  t0 := Tryd.underlying0
  a0 := Tryd.isAgg0
  z0 := Tryd.sizeOf0
  v0 := Tryd.zeroValue0
  t4 := Tryd.underlying4
  a4 := Tryd.isAgg4
  z4 := Tryd.sizeOf4
  v4 := Tryd.zeroValue4
  t9 := Tryd.underlying9
  a9 := Tryd.isAgg9
  z9 := Tryd.sizeOf9
  v9 := Tryd.zeroValue9
  t20 := Tryd.underlying20
  a20 := Tryd.isAgg20
  z20 := Tryd.sizeOf20
  v20 := Tryd.zeroValue20
  t70 := Tryd.underlying75
  a70 := Tryd.isAgg75
  z70 := Tryd.sizeOf75
  v70 := Tryd.zeroValue75
  t72 := Tryd.underlying77
  a72 := Tryd.isAgg77
  z72 := Tryd.sizeOf77
  v72 := Tryd.zeroValue77
  t164 := Tryd.underlying97
  a164 := Tryd.isAgg97
  z164 := Tryd.sizeOf97
  v164 := Tryd.zeroValue97 }
def lays166_ren : Go.Shelf.Ren := ⟨fun | 166 => 45 | 240 => 55 | 276 => 58 | 169 => 46 | n => n, fun | 70 => 75 | 72 => 77 | 37 => 41 | 75 => 79 | 80 => 83 | 164 => 97 | 127 => 91 | n => n, fun | n => n⟩
theorem lays166 : Go.Proofs.Lays.n166 Tryd.prog lays166_ren := {
  mixed := by kernel_rfl
  f166 := Tryd.func45.trans (congrArg some (by kernel_rfl))
  f240 := Tryd.func55.trans (congrArg some (by kernel_rfl))
  f276 := Tryd.func58.trans (congrArg some (by kernel_rfl))
  t0 := Tryd.underlying0
  a0 := Tryd.isAgg0
  z0 := Tryd.sizeOf0
  v0 := Tryd.zeroValue0
  t3 := Tryd.underlying3
  a3 := Tryd.isAgg3
  z3 := Tryd.sizeOf3
  v3 := Tryd.zeroValue3
  t4 := Tryd.underlying4
  a4 := Tryd.isAgg4
  z4 := Tryd.sizeOf4
  v4 := Tryd.zeroValue4
  t9 := Tryd.underlying9
  a9 := Tryd.isAgg9
  z9 := Tryd.sizeOf9
  v9 := Tryd.zeroValue9
  t20 := Tryd.underlying20
  a20 := Tryd.isAgg20
  z20 := Tryd.sizeOf20
  v20 := Tryd.zeroValue20
  t37 := Tryd.underlying41
  a37 := Tryd.isAgg41
  z37 := Tryd.sizeOf41
  v37 := Tryd.zeroValue41
  t70 := Tryd.underlying75
  a70 := Tryd.isAgg75
  z70 := Tryd.sizeOf75
  v70 := Tryd.zeroValue75
  t72 := Tryd.underlying77
  a72 := Tryd.isAgg77
  z72 := Tryd.sizeOf77
  v72 := Tryd.zeroValue77
  t75 := Tryd.underlying79
  a75 := Tryd.isAgg79
  z75 := Tryd.sizeOf79
  v75 := Tryd.zeroValue79
  t164 := Tryd.underlying97
  a164 := Tryd.isAgg97
  z164 := Tryd.sizeOf97
  v164 := Tryd.zeroValue97 }
def lays169_ren : Go.Shelf.Ren := ⟨fun | 166 => 45 | 240 => 55 | 276 => 58 | 169 => 46 | n => n, fun | 70 => 75 | 72 => 77 | 37 => 41 | 75 => 79 | 80 => 83 | 164 => 97 | 127 => 91 | n => n, fun | n => n⟩
theorem lays169 : Go.Proofs.Lays.n169 Tryd.prog lays169_ren := {
  mixed := by kernel_rfl
  f169 := Tryd.func46.trans (congrArg some (by kernel_rfl))
  t0 := Tryd.underlying0
  a0 := Tryd.isAgg0
  z0 := Tryd.sizeOf0
  v0 := Tryd.zeroValue0
  t3 := Tryd.underlying3
  a3 := Tryd.isAgg3
  z3 := Tryd.sizeOf3
  v3 := Tryd.zeroValue3
  t9 := Tryd.underlying9
  a9 := Tryd.isAgg9
  z9 := Tryd.sizeOf9
  v9 := Tryd.zeroValue9
  t37 := Tryd.underlying41
  a37 := Tryd.isAgg41
  z37 := Tryd.sizeOf41
  v37 := Tryd.zeroValue41
  t70 := Tryd.underlying75
  a70 := Tryd.isAgg75
  z70 := Tryd.sizeOf75
  v70 := Tryd.zeroValue75
  t72 := Tryd.underlying77
  a72 := Tryd.isAgg77
  z72 := Tryd.sizeOf77
  v72 := Tryd.zeroValue77
  t127 := Tryd.underlying91
  a127 := Tryd.isAgg91
  z127 := Tryd.sizeOf91
  v127 := Tryd.zeroValue91 }
theorem bX_240 : Go.Proofs.Builder.X72 Tryd.prog lays240_ren := {
  sizeBuilder := by kernel_rfl
  liesBuilder := by kernel_rfl }
theorem bX_166 : Go.Proofs.Builder.Extra Tryd.prog lays166_ren := {
  sizeBuilder := by kernel_rfl
  liesBuilder := by kernel_rfl
  t5 := Tryd.underlying5
  a5 := Tryd.isAgg5
  z5 := Tryd.sizeOf5
  v5 := Tryd.zeroValue5
  infoByte := by kernel_rfl
  cellsByte := by kernel_rfl
  sizeByte := by kernel_rfl
  neB5 := by decide }
theorem bX_169 : Go.Proofs.Builder.Extra Tryd.prog lays169_ren := {
  sizeBuilder := by kernel_rfl
  liesBuilder := by kernel_rfl
  t5 := Tryd.underlying5
  a5 := Tryd.isAgg5
  z5 := Tryd.sizeOf5
  v5 := Tryd.zeroValue5
  infoByte := by kernel_rfl
  cellsByte := by kernel_rfl
  sizeByte := by kernel_rfl
  neB5 := by decide }
end Sh
end Go.Proofs.YtgbknfbcjddnhaaDoor

/- THE LIBRARY's CONTRACTS AT THIS PROGRAM: laid by the shelf's own programs (plain words). -/
set_option linter.unusedSimpArgs false
set_option linter.unusedVariables false
namespace Go.Proofs.YtgbknfbcjddnhaaDoor
namespace Sh
open Go.Shelf
def laysM171_ren : Go.Shelf.Ren := ⟨fun | 171 => 37 | 243 => 49 | 246 => 56 | 283 => 59 | 284 => 60 | 285 => 61 | 286 => 62 | 129 => 67 | 317 => 66 | 318 => 68 | 319 => 69 | 320 => 70 | 337 => 75 | 338 => 76 | n => n, fun | 3 => 3 | 9 => 9 | 2 => 2 | 4 => 4 | 171 => 99 | 0 => 0 | 53 => 100 | 37 => 41 | 5 => 5 | 173 => 103 | 212 => 108 | 51 => 109 | 20 => 20 | 213 => 110 | 46 => 64 | 232 => 118 | 233 => 119 | n => n, fun | 17 => 1 | 18 => 3 | 19 => 4 | n => n⟩
theorem laysM171 : Go.Proofs.LaysM.n171 Tryd.prog laysM171_ren := {
  mixed := by kernel_rfl
  f129 := Tryd.func67.trans (congrArg some (by kernel_rfl))
  f171 := Tryd.func37.trans (congrArg some (by kernel_rfl))
  f243 := Tryd.func49.trans (congrArg some (by kernel_rfl))
  f246 := Tryd.func56.trans (congrArg some (by kernel_rfl))
  f283 := Tryd.func59.trans (congrArg some (by kernel_rfl))
  f284 := Tryd.func60.trans (congrArg some (by kernel_rfl))
  f285 := Tryd.func61.trans (congrArg some (by kernel_rfl))
  f286 := Tryd.func62.trans (congrArg some (by kernel_rfl))
  f317 := Tryd.func66.trans (congrArg some (by kernel_rfl))
  f318 := Tryd.func68.trans (congrArg some (by kernel_rfl))
  f319 := Tryd.func69.trans (congrArg some (by kernel_rfl))
  f320 := Tryd.func70.trans (congrArg some (by kernel_rfl))
  f337 := Tryd.func75.trans (congrArg some (by kernel_rfl))
  f338 := Tryd.func76.trans (congrArg some (by kernel_rfl))
  t0 := Tryd.underlying0
  a0 := Tryd.isAgg0
  z0 := Tryd.sizeOf0
  v0 := Tryd.zeroValue0
  t2 := Tryd.underlying2
  a2 := Tryd.isAgg2
  z2 := Tryd.sizeOf2
  v2 := Tryd.zeroValue2
  t3 := Tryd.underlying3
  a3 := Tryd.isAgg3
  z3 := Tryd.sizeOf3
  v3 := Tryd.zeroValue3
  t4 := Tryd.underlying4
  a4 := Tryd.isAgg4
  z4 := Tryd.sizeOf4
  v4 := Tryd.zeroValue4
  t5 := Tryd.underlying5
  a5 := Tryd.isAgg5
  z5 := Tryd.sizeOf5
  v5 := Tryd.zeroValue5
  t9 := Tryd.underlying9
  a9 := Tryd.isAgg9
  z9 := Tryd.sizeOf9
  v9 := Tryd.zeroValue9
  t20 := Tryd.underlying20
  a20 := Tryd.isAgg20
  z20 := Tryd.sizeOf20
  v20 := Tryd.zeroValue20
  t37 := Tryd.underlying41
  a37 := Tryd.isAgg41
  z37 := Tryd.sizeOf41
  v37 := Tryd.zeroValue41
  t46 := Tryd.underlying64
  a46 := Tryd.isAgg64
  z46 := Tryd.sizeOf64
  v46 := Tryd.zeroValue64
  t51 := Tryd.underlying109
  a51 := Tryd.isAgg109
  z51 := Tryd.sizeOf109
  v51 := Tryd.zeroValue109
  t53 := Tryd.underlying100
  a53 := Tryd.isAgg100
  z53 := Tryd.sizeOf100
  v53 := Tryd.zeroValue100
  t171 := Tryd.underlying99
  a171 := Tryd.isAgg99
  z171 := Tryd.sizeOf99
  v171 := Tryd.zeroValue99
  t173 := Tryd.underlying103
  a173 := Tryd.isAgg103
  z173 := Tryd.sizeOf103
  v173 := Tryd.zeroValue103
  t212 := Tryd.underlying108
  a212 := Tryd.isAgg108
  z212 := Tryd.sizeOf108
  v212 := Tryd.zeroValue108
  t213 := Tryd.underlying110
  a213 := Tryd.isAgg110
  z213 := Tryd.sizeOf110
  t232 := Tryd.underlying118
  a232 := Tryd.isAgg118
  z232 := Tryd.sizeOf118
  v232 := Tryd.zeroValue118
  t233 := Tryd.underlying119
  a233 := Tryd.isAgg119
  z233 := Tryd.sizeOf119
  v233 := Tryd.zeroValue119
  g17 := by kernel_rfl
  g18 := by kernel_rfl
  g19 := by kernel_rfl
  i0 := by kernel_rfl
  i2 := by kernel_rfl
  i3 := by kernel_rfl
  i4 := by kernel_rfl
  i5 := by kernel_rfl
  i9 := by kernel_rfl
  i20 := by kernel_rfl
  i37 := by kernel_rfl
  i46 := by kernel_rfl
  i51 := by kernel_rfl
  i53 := by kernel_rfl
  i171 := by kernel_rfl
  i173 := by kernel_rfl
  i212 := by kernel_rfl
  i232 := by kernel_rfl
  i233 := by kernel_rfl
  m17 := by kernel_rfl
  m18 := by kernel_rfl
  m19 := by kernel_rfl }
def lays146_ren : Go.Shelf.Ren := ⟨fun | 146 => 50 | 221 => 57 | 268 => 63 | 138 => 64 | 143 => 65 | 195 => 71 | 197 => 72 | 218 => 73 | 219 => 74 | 260 => 77 | 217 => 78 | 225 => 79 | 224 => 80 | 267 => 81 | 266 => 82 | 314 => 83 | n => n, fun | 9 => 9 | 31 => 49 | 3 => 3 | 4 => 4 | 0 => 0 | 105 => 114 | 21 => 21 | 5 => 5 | 46 => 64 | 119 => 120 | 139 => 123 | 138 => 122 | 146 => 124 | 51 => 109 | n => n, fun | 1 => 2 | 3 => 5 | 4 => 6 | n => n⟩
theorem lays146 : Go.Proofs.Lays.n146 Tryd.prog lays146_ren := {
  mixed := by kernel_rfl
  f138 := Tryd.func64.trans (congrArg some (by kernel_rfl))
  f143 := Tryd.func65.trans (congrArg some (by kernel_rfl))
  f146 := Tryd.func50.trans (congrArg some (by kernel_rfl))
  f195 := Tryd.func71.trans (congrArg some (by kernel_rfl))
  f197 := Tryd.func72.trans (congrArg some (by kernel_rfl))
  f217 := Tryd.func78.trans (congrArg some (by kernel_rfl))
  f218 := Tryd.func73.trans (congrArg some (by kernel_rfl))
  f219 := Tryd.func74.trans (congrArg some (by kernel_rfl))
  f221 := Tryd.func57.trans (congrArg some (by kernel_rfl))
  f224 := Tryd.func80.trans (congrArg some (by kernel_rfl))
  f225 := Tryd.func79.trans (congrArg some (by kernel_rfl))
  f260 := Tryd.func77.trans (congrArg some (by kernel_rfl))
  f266 := Tryd.func82.trans (congrArg some (by kernel_rfl))
  f267 := Tryd.func81.trans (congrArg some (by kernel_rfl))
  f268 := Tryd.func63.trans (congrArg some (by kernel_rfl))
  f314 := Tryd.func83.trans (congrArg some (by kernel_rfl))
  t0 := Tryd.underlying0
  a0 := Tryd.isAgg0
  z0 := Tryd.sizeOf0
  v0 := Tryd.zeroValue0
  t3 := Tryd.underlying3
  a3 := Tryd.isAgg3
  z3 := Tryd.sizeOf3
  v3 := Tryd.zeroValue3
  t4 := Tryd.underlying4
  a4 := Tryd.isAgg4
  z4 := Tryd.sizeOf4
  v4 := Tryd.zeroValue4
  t5 := Tryd.underlying5
  a5 := Tryd.isAgg5
  z5 := Tryd.sizeOf5
  v5 := Tryd.zeroValue5
  t9 := Tryd.underlying9
  a9 := Tryd.isAgg9
  z9 := Tryd.sizeOf9
  v9 := Tryd.zeroValue9
  t21 := Tryd.underlying21
  a21 := Tryd.isAgg21
  z21 := Tryd.sizeOf21
  v21 := Tryd.zeroValue21
  t31 := Tryd.underlying49
  a31 := Tryd.isAgg49
  z31 := Tryd.sizeOf49
  v31 := Tryd.zeroValue49
  t46 := Tryd.underlying64
  a46 := Tryd.isAgg64
  z46 := Tryd.sizeOf64
  v46 := Tryd.zeroValue64
  t51 := Tryd.underlying109
  a51 := Tryd.isAgg109
  z51 := Tryd.sizeOf109
  v51 := Tryd.zeroValue109
  t105 := Tryd.underlying114
  a105 := Tryd.isAgg114
  z105 := Tryd.sizeOf114
  v105 := Tryd.zeroValue114
  t119 := Tryd.underlying120
  a119 := Tryd.isAgg120
  z119 := Tryd.sizeOf120
  t138 := Tryd.underlying122
  a138 := Tryd.isAgg122
  z138 := Tryd.sizeOf122
  v138 := Tryd.zeroValue122
  t139 := Tryd.underlying123
  a139 := Tryd.isAgg123
  z139 := Tryd.sizeOf123
  v139 := Tryd.zeroValue123
  t146 := Tryd.underlying124
  a146 := Tryd.isAgg124
  z146 := Tryd.sizeOf124
  v146 := Tryd.zeroValue124
  g1 := by kernel_rfl
  g3 := by kernel_rfl
  g4 := by kernel_rfl }
def lays229_ren : Go.Shelf.Ren := ⟨fun | 229 => 51 | n => n, fun | 9 => 9 | 40 => 86 | 31 => 49 | 152 => 94 | 3 => 3 | 0 => 0 | 4 => 4 | 21 => 21 | 154 => 96 | n => n, fun | n => n⟩
theorem lays229 : Go.Proofs.Lays.n229 Tryd.prog lays229_ren := {
  mixed := by kernel_rfl
  f229 := Tryd.func51.trans (congrArg some (by kernel_rfl))
  t0 := Tryd.underlying0
  a0 := Tryd.isAgg0
  z0 := Tryd.sizeOf0
  v0 := Tryd.zeroValue0
  t3 := Tryd.underlying3
  a3 := Tryd.isAgg3
  z3 := Tryd.sizeOf3
  v3 := Tryd.zeroValue3
  t4 := Tryd.underlying4
  a4 := Tryd.isAgg4
  z4 := Tryd.sizeOf4
  v4 := Tryd.zeroValue4
  t9 := Tryd.underlying9
  a9 := Tryd.isAgg9
  z9 := Tryd.sizeOf9
  v9 := Tryd.zeroValue9
  t21 := Tryd.underlying21
  a21 := Tryd.isAgg21
  z21 := Tryd.sizeOf21
  v21 := Tryd.zeroValue21
  t31 := Tryd.underlying49
  a31 := Tryd.isAgg49
  z31 := Tryd.sizeOf49
  v31 := Tryd.zeroValue49
  t40 := Tryd.underlying86
  a40 := Tryd.isAgg86
  z40 := Tryd.sizeOf86
  v40 := Tryd.zeroValue86
  t152 := Tryd.underlying94
  a152 := Tryd.isAgg94
  z152 := Tryd.sizeOf94
  v152 := Tryd.zeroValue94
  t154 := Tryd.underlying96
  a154 := Tryd.isAgg96
  z154 := Tryd.sizeOf96
  v154 := Tryd.zeroValue96 }
open Go.RowKit Go.Sort Go.Lib in
theorem strconv_Itoa (n : Int) (h0 : -9223372036854775808 ≤ n) (h1 : n ≤ 9223372036854775807) (w : World) (htab : Lib.TabIs Tryd.prog w "internal/strconv.uint64pow10" .u64 Lib.pow10Tab) :
    Calls Tryd.prog 37 #[.int .i64 n] w fun e w' => e = .returned (.string ⟨(Lib.itoa n).toArray⟩) ∧ ∃ k os, w' = grow (w.drewN k) os := Any.strconv_Itoa laysM171 n h0 h1 w htab
open Go.RowKit Go.Lib in
theorem strings_Split (s sep : ByteArray) (m : Int) (w : World) (hs : s.size < 4294967281) (hm : w.cell? ⟨2, 0, none⟩ = some (.int .i64 m)) (h1 : 1 ≤ sep.size) :
    Calls Tryd.prog 50 #[.string s, .string sep] w fun e w' =>
      e = .returned (.slice (some ⟨w.heap.size, 0, none⟩) (Lib.countB s sep + 1) (Lib.countB s sep + 1)) ∧ w' = w.alloc (.cells ((Lib.splitB sep 0 (Lib.countB s sep) s).map Value.string).toArray 9) := Any.strings_Split lays146 (by kernel_rfl) s sep m w hs hm h1
open Go.RowKit Go.Lib in
theorem strings_FieldsFunc (g : Nat) (lb : Array Value) (eg : ∀ args w, (callFunc g args).run Tryd.prog w = .ok (.enter g args) w) (p : Nat → Bool) (s : ByteArray) (w : World) (hs : s.size ≤ 4294967296) (hp : PredAt Tryd.prog g lb encR p w) :
    Calls Tryd.prog 51 #[.string s, .func (.func g) #[] lb] w fun e w' => ∃ A, e = .returned (.slice (some ⟨A, 0, none⟩) (Lib.goFieldsP p s).length (Lib.goFieldsP p s).length) ∧ w.heap.size ≤ A ∧
      w'.ownsRow w.heap.size 9 1 (.slice (some ⟨A, 0, none⟩) (Lib.goFieldsP p s).length (Lib.goFieldsP p s).length) (Lib.goFieldsP p s).length ((Lib.goFieldsP p s).map Value.string) ∧ Below w.heap.size w w' := Any.strings_FieldsFunc lays229 g lb eg p s w hs hp (by kernel_rfl) (by kernel_rfl)
end Sh
end Go.Proofs.YtgbknfbcjddnhaaDoor

/- WORDS OF A TEXT: parts between bytes of a kind; what strings.FieldsFunc gives where blanks part the words. No program in sight. -/
set_option linter.unusedSimpArgs false
set_option linter.unusedVariables false
namespace Go.Proofs.YtgbknfbcjddnhaaDoor
namespace Pv
open Go.Lib

/-- The parts between bytes of a kind. -/
def splitP (p : UInt8 → Bool) : List UInt8 → List (List UInt8)
  | [] => [[]]
  | x :: xs => if p x = true then [] :: splitP p xs else match splitP p xs with
    | [] => [[x]]
    | h :: t => (x :: h) :: t
/-- The parts that are not empty. -/
def wordsB (p : UInt8 → Bool) (l : List UInt8) : List (List UInt8) := (splitP p l).filter fun x => !x.isEmpty
def isBl (b : UInt8) : Bool := b == 32

theorem splitP_sep (p : UInt8 → Bool) : ∀ (u : List UInt8) (c : UInt8) (t : List UInt8), (∀ x ∈ u, p x = false) → p c = true → splitP p (u ++ c :: t) = u :: splitP p t
  | [], c, t, _, hc => by simp [splitP, hc]
  | x :: u, c, t, hu, hc => by
    have ih := splitP_sep p u c t (fun y hy => hu y (List.mem_cons_of_mem _ hy)) hc
    have hx := hu x (List.mem_cons_self ..)
    simp [splitP, hx, ih]
theorem splitP_none (p : UInt8 → Bool) : ∀ (u : List UInt8), (∀ x ∈ u, p x = false) → splitP p u = [u]
  | [], _ => rfl
  | x :: u, hu => by
    have ih := splitP_none p u fun y hy => hu y (List.mem_cons_of_mem _ hy)
    have hx := hu x (List.mem_cons_self ..)
    simp [splitP, hx, ih]
theorem words_sep {p : UInt8 → Bool} {u : List UInt8} {c : UInt8} {t : List UInt8} (hu : ∀ x ∈ u, p x = false) (h0 : u ≠ []) (hc : p c = true) : wordsB p (u ++ c :: t) = u :: wordsB p t := by
  unfold wordsB
  rw [splitP_sep p u c t hu hc, List.filter_cons_of_pos (by simp [h0])]
theorem words_blank {p : UInt8 → Bool} {c : UInt8} {t : List UInt8} (hc : p c = true) : wordsB p (c :: t) = wordsB p t := by
  unfold wordsB
  rw [show c :: t = [] ++ c :: t from rfl, splitP_sep p [] c t (by simp) hc, List.filter_cons_of_neg (by simp)]
theorem words_none {p : UInt8 → Bool} {u : List UInt8} (hu : ∀ x ∈ u, p x = false) (h0 : u ≠ []) : wordsB p u = [u] := by
  unfold wordsB
  rw [splitP_none p u hu, List.filter_cons_of_pos (by simp [h0]), List.filter_nil]
theorem words_nil (p : UInt8 → Bool) : wordsB p [] = [] := rfl

/-- A rune that is a blank is one byte, a blank; a rune that is none has no blank among its bytes. -/
theorem blank_rune (l : List UInt8) (hne : l ≠ []) (h : (decodeL l).1 = 32) : (decodeL l).2 = 1 ∧ l.getD 0 0 = 32 := by
  rw [decodeL_N] at h ⊢
  have h0 := UInt8.toNat_lt (l.getD 0 0)
  have key : ∀ n b0 b1 b2 b3 : Nat, (decodeN n b0 b1 b2 b3).1 = 32 → (decodeN n b0 b1 b2 b3).2 = 1 ∧ b0 = 32 := by
    intro n b0 b1 b2 b3
    unfold decodeN
    repeat' split
    all_goals (intro h; dsimp only at h ⊢; omega)
  obtain ⟨k1, k2⟩ := key _ _ _ _ _ h
  exact ⟨k1, UInt8.toNat_inj.1 k2⟩
theorem other_rune (l : List UInt8) (hne : l ≠ []) (h : (decodeL l).1 ≠ 32) : 1 ≤ (decodeL l).2 ∧ (decodeL l).2 ≤ l.length ∧ ∀ j, j < (decodeL l).2 → l.getD j 0 ≠ 32 := by
  have hl : 0 < l.length := List.length_pos_iff.2 hne
  have hc := decodeN_conts l.length (l.getD 0 0).toNat (l.getD 1 0).toNat (l.getD 2 0).toNat (l.getD 3 0).toNat
  have ha : l.getD 0 0 = 32 → (decodeL l).1 = 32 := fun e => by
    rw [decodeL_N]
    rw [e]
    have : (32 : UInt8).toNat = 32 := rfl
    rw [this]
    unfold decodeN
    rfl
  rw [← decodeL_N] at hc
  obtain ⟨c2, c3, c4, c5⟩ := hc
  have hw := decodeL_width l
  refine ⟨hw, by omega, fun j hj e => ?_⟩
  have h32 : (32 : UInt8).toNat = 32 := rfl
  match j, hj, e with
  | 0, _, e => exact h (ha e)
  | 1, hj, e => have := (c2 (by omega)).1; rw [e, h32] at this; omega
  | 2, hj, e => have := (c3 (by omega)).1; rw [e, h32] at this; omega
  | 3, hj, e => have := (c4 (by omega)).1; rw [e, h32] at this; omega
  | j + 4, hj, _ => omega

def pcs (l : List UInt8) (acc : List (Nat × Nat)) : List (List UInt8) := acc.map fun x => (l.take x.2).drop x.1

theorem spans_words (l : List UInt8) : ∀ (f pos : Nat) (st : Option Nat) (acc : List (Nat × Nat)), pos ≤ l.length → l.length ≤ f + pos → (∀ a, st = some a → a < pos ∧ ∀ j, a ≤ j → j < pos → l.getD j 0 ≠ 32) →
    pcs l (closeSpans ⟨l.toArray⟩ (spansFromP (fun r => decide ((r : Int) = 32)) ⟨l.toArray⟩ f pos st acc)) = pcs l acc ++ wordsB isBl (l.drop (st.getD pos)) := by
  intro f
  have hsz : (⟨l.toArray⟩ : ByteArray).size = l.length := rfl
  have hfin : ∀ (st : Option Nat) (acc : List (Nat × Nat)), (∀ a, st = some a → a < l.length ∧ ∀ j, a ≤ j → j < l.length → l.getD j 0 ≠ 32) → pcs l (closeSpans ⟨l.toArray⟩ (acc, st)) = pcs l acc ++ wordsB isBl (l.drop (st.getD l.length)) := by
    intro st acc hst
    cases st with
    | none => simp [closeSpans, words_nil]
    | some a =>
      obtain ⟨h1, h2⟩ := hst a rfl
      have hne : l.drop a ≠ [] := by
        intro h0
        have := congrArg List.length h0
        rw [List.length_drop] at this
        simp at this; omega
      have hno : ∀ x ∈ l.drop a, isBl x = false := fun x hx => by
        obtain ⟨k, hk⟩ := List.getElem?_of_mem hx
        rw [List.getElem?_drop] at hk
        have hlt := (List.getElem?_eq_some_iff.1 hk).1
        have := h2 (a + k) (by omega) hlt
        simp only [List.getD, hk, Option.getD_some] at this
        simp [isBl, this]
      simp only [Option.getD_some]
      rw [words_none hno hne]
      simp [closeSpans, pcs, hsz]
  induction f with
  | zero =>
    intro pos st acc hp hf hst
    have : pos = l.length := by omega
    subst this
    exact hfin st acc hst
  | succ f ih =>
    intro pos st acc hp hf hst
    by_cases hlt : pos < l.length
    · have hd := decodeL_drop ⟨l.toArray⟩ pos
      have hdt : (⟨l.toArray⟩ : ByteArray).data.toList = l := rfl
      rw [hdt] at hd
      have hne : l.drop pos ≠ [] := by
        intro h0
        have := congrArg List.length h0
        rw [List.length_drop] at this
        simp at this; omega
      unfold spansFromP
      rw [hsz, if_pos hlt, ← hd]
      have hcons : l.drop pos = l.getD pos 0 :: l.drop (pos + 1) := by
        rw [List.drop_eq_getElem_cons hlt]; simp [List.getD, hlt]
      by_cases hr : (decodeL (l.drop pos)).1 = 32
      · obtain ⟨hk, hb⟩ := blank_rune _ hne hr
        have hb' : l.getD pos 0 = 32 := by rw [getD_dropU] at hb; simpa using hb
        have hbl : isBl (l.getD pos 0) = true := by rw [hb']; rfl
        rw [if_pos (by simp [hr]), hk]
        cases st with
        | none =>
          show pcs l (closeSpans _ (spansFromP _ _ f (pos + 1) none acc)) = _
          rw [ih (pos + 1) none acc hlt (by omega) (fun a h => by cases h)]
          simp only [Option.getD_none]
          rw [hcons, words_blank hbl]
        | some a =>
          obtain ⟨h1, h2⟩ := hst a rfl
          show pcs l (closeSpans _ (spansFromP _ _ f (pos + 1) none (acc ++ [(a, pos)]))) = _
          rw [ih (pos + 1) none _ hlt (by omega) (fun a h => by cases h)]
          simp only [Option.getD_none, Option.getD_some]
          have hsplit : l.drop a = (l.take pos).drop a ++ l.getD pos 0 :: l.drop (pos + 1) := by
            rw [← hcons]
            have e : l = l.take pos ++ l.drop pos := (List.take_append_drop pos l).symm
            have : l.drop a = (l.take pos ++ l.drop pos).drop a := by rw [← e]
            rw [this, List.drop_append_of_le_length (by rw [List.length_take]; omega)]
          have hno : ∀ x ∈ (l.take pos).drop a, isBl x = false := fun x hx => by
            obtain ⟨k, hk⟩ := List.getElem?_of_mem hx
            rw [List.getElem?_drop, List.getElem?_take] at hk
            split at hk
            · have := h2 (a + k) (by omega) (by omega)
              simp only [List.getD, hk, Option.getD_some] at this
              simp [isBl, this]
            · cases hk
          have hne2 : (l.take pos).drop a ≠ [] := by
            intro h0
            have := congrArg List.length h0
            rw [List.length_drop, List.length_take] at this
            simp at this; omega
          rw [hsplit, words_sep hno hne2 hbl]
          simp [pcs]
      · obtain ⟨k1, k2, k3⟩ := other_rune _ hne hr
        rw [List.length_drop] at k2
        have k3' : ∀ j, pos ≤ j → j < pos + (decodeL (l.drop pos)).2 → l.getD j 0 ≠ 32 := fun j h1 h2 => by
          have := k3 (j - pos) (by omega)
          rw [getD_dropU, show pos + (j - pos) = j by omega] at this
          exact this
        rw [if_neg (by simp; omega)]
        cases st with
        | none =>
          show pcs l (closeSpans _ (spansFromP _ _ f (pos + (decodeL (l.drop pos)).2) (some pos) acc)) = _
          rw [ih _ (some pos) acc (by omega) (by omega) (fun a h => by injection h with h; subst h; exact ⟨by omega, k3'⟩)]
          rfl
        | some a =>
          obtain ⟨h1, h2⟩ := hst a rfl
          show pcs l (closeSpans _ (spansFromP _ _ f (pos + (decodeL (l.drop pos)).2) (some a) acc)) = _
          rw [ih _ (some a) acc (by omega) (by omega) (fun a' h => by
            injection h with h; subst h
            refine ⟨by omega, fun j g1 g2 => ?_⟩
            by_cases e : j < pos
            · exact h2 j g1 e
            · exact k3' j (by omega) g2)]
          rfl
    · have : pos = l.length := by omega
      subst this
      rw [spansFromP_end _ _ _ _ _ _ (by rw [hsz]; omega)]
      exact hfin st acc hst

theorem fields_words (s : List UInt8) : (goFieldsP (fun r => decide ((r : Int) = 32)) ⟨s.toArray⟩).map (fun x => x.data.toList) = wordsB isBl s := by
  have h := spans_words s s.length 0 none [] (Nat.zero_le _) (Nat.le_refl _) (fun a h => by cases h)
  simp only [Option.getD_none, List.drop_zero] at h
  have e : pcs s [] ++ wordsB isBl s = wordsB isBl s := rfl
  rw [e] at h
  rw [← h]
  unfold goFieldsP spansOfP pcs
  rw [List.map_map]
  refine List.map_congr_left fun x _ => ?_
  show ((⟨s.toArray⟩ : ByteArray).extract x.1 x.2).data.toList = _
  simp [List.extract, List.drop_take]
end Pv
end Go.Proofs.YtgbknfbcjddnhaaDoor

/- LAW 06: the library's functions on texts, as pure calls. -/
set_option linter.unusedSimpArgs false
set_option linter.unusedVariables false
namespace Go.Proofs.YtgbknfbcjddnhaaDoor
namespace Pv
open Go.RowKit

theorem args_nil (X : Cx) (γ : Gh) (w : World) (vals : List Value) (h : RepL X γ w [] vals) : vals = [] := h.nil_inv
theorem args_str (s : List UInt8) (X : Cx) (γ : Gh) (w : World) (vals : List Value) (h : RepL X γ w [.str s] vals) : vals = [strV s] := by
  obtain ⟨v, us, rfl, hv, hus⟩ := h.cons_inv
  rw [hv.str_inv, hus.nil_inv]; rfl
theorem args_str2 (s t : List UInt8) (X : Cx) (γ : Gh) (w : World) (vals : List Value) (h : RepL X γ w [.str s, .str t] vals) : vals = [strV s, strV t] := by
  obtain ⟨v, us, rfl, hv, hus⟩ := h.cons_inv
  rw [hv.str_inv, args_str t X γ w us hus]; rfl
theorem args_int (k : IntKind) (n : Int) (X : Cx) (γ : Gh) (w : World) (vals : List Value) (h : RepL X γ w [.int k n] vals) : vals = [.int k n] := by
  obtain ⟨v, us, rfl, hv, hus⟩ := h.cons_inv
  rw [hv.int_inv, hus.nil_inv]
theorem rep_raw (X : Cx) (γ : Gh) (w : World) : Rep X γ w (.raw .nilIface) .nilIface := .raw _ rfl
theorem rep_tup1 (n : Int) (X : Cx) (γ : Gh) (w : World) : Rep X γ w (.tup [.int .i64 n, .raw .nilIface]) (.tuple #[.int .i64 n, .nilIface]) := by
  refine .tup _ [.int .i64 n, .nilIface] rfl fun k c u hc hu => ?_
  match k, hc, hu with
  | 0, hc, hu => injection hc with hc; injection hu with hu; subst hc; subst hu; exact .int _ _
  | 1, hc, hu => injection hc with hc; injection hu with hu; subst hc; subst hu; exact .raw _ rfl
  | k + 2, hc, hu => simp at hc

theorem call45 (s x : List UInt8) (h : s.length + x.length ≤ 140737488355328) : PureCall Tryd.prog 45 [.pt 0 0 0, .str x] [.bld 77 5 s] ⟨.tup [.int .i64 x.length, .raw .nilIface], [.bld 77 5 (s ++ x)], []⟩ :=
  pure_bld ⟨_, Tryd.func45, rfl, rfl⟩ (args_str x) (rep_tup1 x.length) fun w b p v hp hH =>
    (held_string Sh.lays166 Sh.bX_166 hp hH x h).mono fun ev w' ⟨he, v', h1, h2, h3⟩ => ⟨he, self b, v', .inr rfl, h1, h2, h3⟩
theorem call46 (s : List UInt8) (h : s ≠ []) : PureCall Tryd.prog 46 [.pt 0 0 0] [.bld 77 5 s] ⟨.str s, [.bld 77 5 s], []⟩ :=
  pure_bld ⟨_, Tryd.func46, rfl, rfl⟩ args_nil (fun _ _ _ => .str s) fun w b p v hp hH =>
    (held_text Sh.lays169 Sh.bX_169 hH h).mono fun ev w' ⟨he, h1, h2⟩ => ⟨he, p, v, hp, h1, h2, fun g hg => .inl hg⟩
theorem some_int {w : World} (hg : ∀ b p, Pv.glob b = some p → ∃ o, w.heap[b]? = some o ∧ p o) : ∃ m, w.cell? ⟨2, 0, none⟩ = some (.int .i64 m) := by
  obtain ⟨o, ho, cs, T, fz, m, rfl, hm⟩ := hg 2 someInt rfl
  exact ⟨m, by rw [Lib.cell_of_heap ho]; exact hm⟩
theorem splitB_C (s : List UInt8) (c : UInt8) : (Lib.splitB ⟨#[c]⟩ 0 (Lib.countB ⟨s.toArray⟩ ⟨#[c]⟩) ⟨s.toArray⟩).map Value.string = (splitC c s).map strV := by
  have h := Lib.splitB_data ⟨#[c]⟩ 0 (Lib.countB ⟨s.toArray⟩ ⟨#[c]⟩) ⟨s.toArray⟩
  have h2 : Lib.splitK [c] 0 (Lib.count s [c]) s = splitC c s := splitK_C c s
  have h3 : (Lib.splitB ⟨#[c]⟩ 0 (Lib.countB ⟨s.toArray⟩ ⟨#[c]⟩) ⟨s.toArray⟩).map (·.data.toList) = splitC c s := h.trans h2
  rw [← h3, List.map_map]
  exact List.map_congr_left fun x _ => by
    show Value.string x = Value.string ⟨x.data.toList.toArray⟩
    simp
theorem call50 (s : List UInt8) (c : UInt8) (h : s.length < 4294967281) : PureCall Tryd.prog 50 [.str s, .str [c]] [] ⟨.os 1000000000, [], [.row 0 9 1 (splitC c s).length (fl eStr (splitC c s))]⟩ := by
  have h1 : 1 ≤ (⟨#[c]⟩ : ByteArray).size := Nat.le_refl 1
  have hN : Lib.countB ⟨s.toArray⟩ ⟨#[c]⟩ + 1 = (splitC c s).length := by
    rw [← Lib.splitB_all ⟨#[c]⟩ h1 0 _ ⟨s.toArray⟩ rfl, ← List.length_map (f := Value.string), splitB_C, List.length_map]
  refine pure_new2 (vs := (splitC c s).map strV) ⟨_, Tryd.func50, rfl, rfl⟩ (args_str2 s [c]) (fun X γ w => strs_rows (splitC c s)) fun w hg => ?_
  obtain ⟨m, hm⟩ := some_int hg
  refine (Sh.strings_Split ⟨s.toArray⟩ ⟨#[c]⟩ m w (by show s.toArray.size < _; rw [List.size_toArray]; exact h) hm h1).mono ?_
  rintro ev w' ⟨he, hw⟩
  rw [splitB_C] at hw
  rw [hN] at he
  have hle := (splitC_len c s).1
  have hnew : w'.heap[w.heap.size]? = some (.cells ((splitC c s).map strV).toArray 9 (0, 0)) := by
    rw [hw]
    show (w.heap.push _)[w.heap.size]? = _
    simp
  refine ⟨_, he, ⟨by simp, .inr ⟨w.heap.size, _, _, rfl, Nat.le_refl _, hnew, Nat.le_refl _, by unfold maxLen; omega, by simp, by simp only [Nat.mul_one]; exact List.take_of_length_le (by simp)⟩⟩, by rw [hw]; exact Keeps.alloc _ _ _⟩
open Go.Shelf Go.Lib in
/-- The function value 'func(r rune) bool { return r == ' ' }'. -/
theorem is_blank (w : World) : PredAt Tryd.prog 52 #[] encR (fun r => decide ((r : Int) = 32)) w := fun W r _ => by
  unfold FnGives
  go_enter Tryd.func52, Tryd.ntmps52
  go_wp2
  go_ret
  exact ⟨rfl, 0, rfl⟩
open Go.Shelf Go.Lib in
theorem call51 (s : List UInt8) (h : s.length ≤ 65536) : PureCall Tryd.prog 51 [.str s, .fn (.func 52) [] []] [] ⟨.os 1000000000, [], [.row 0 9 1 (wordsB isBl s).length (fl eStr (wordsB isBl s))]⟩ := by
  have hw : (Lib.goFieldsP (fun r => decide ((r : Int) = 32)) ⟨s.toArray⟩).map Value.string = (wordsB isBl s).map strV := by
    rw [← fields_words s, List.map_map]
    exact List.map_congr_left fun x _ => by
      show Value.string x = Value.string ⟨x.data.toList.toArray⟩
      simp
  have hl : (Lib.goFieldsP (fun r => decide ((r : Int) = 32)) ⟨s.toArray⟩).length = (wordsB isBl s).length := by
    have := congrArg List.length hw
    simpa using this
  refine pure_new2 (us := [strV s, .func (.func 52) #[] #[]]) (vs := (wordsB isBl s).map strV) ⟨_, Tryd.func51, rfl, rfl⟩ (fun X γ w vals h => ?_) (fun X γ w => strs_rows (wordsB isBl s)) fun w hg => ?_
  · obtain ⟨v, us, rfl, hv, hus⟩ := h.cons_inv
    obtain ⟨v2, us2, rfl, hv2, hus2⟩ := hus.cons_inv
    rw [hv.str_inv, hus2.nil_inv]
    cases hv2 with
    | fn _ _ _ vs us hvl hul h h' =>
      have e1 : vs = [] := List.eq_nil_of_length_eq_zero hvl
      have e2 : us = [] := List.eq_nil_of_length_eq_zero hul
      subst e1 e2
      rfl
  · refine (Sh.strings_FieldsFunc 52 #[] (enters_of Tryd.func52 (by kernel_rfl) rfl) _ ⟨s.toArray⟩ w (by show s.toArray.size ≤ _; rw [List.size_toArray]; omega) (is_blank w)).mono ?_
    rintro ev w' ⟨A, he, _, ho, hb⟩
    rw [hl, hw] at ho
    rw [hl] at he
    exact ⟨_, he, ho, ⟨hb.os, hb.tape, hb.output, hb.size, fun b hlt _ => hb.block b hlt⟩⟩
end Pv
end Go.Proofs.YtgbknfbcjddnhaaDoor

/- LAW 06, THE WALKS: words as numbers; a line's words as a reading. -/
set_option linter.unusedSimpArgs false
set_option linter.unusedVariables false
namespace Go.Proofs.YtgbknfbcjddnhaaDoor
namespace Pv
def c53L1 : C := (.seq (.reg [⟨(some 9), 144, none, .bi false .lss (.t 8) (.t 7)⟩])
  (.seq (.cond (.t 9) .skip (.exit 0))
  (.seq (.block 1 (.seq (.reg [⟨(some 10), 160, none, .mv (.t 8)⟩,
    ⟨(some 5), 80, none, .mv (.t 10)⟩])
  (.seq (.seq (.reg [⟨(some 11), 176, none, .mv (.t 5)⟩,
    ⟨(some 12), 192, none, .bi false .eql (.t 11) (.c (.int .i64 10))⟩,
    ⟨(some 13), 208, none, .mv (.t 12)⟩,
    ⟨(some 14), 224, (some (13, false)), .mv (.t 0)⟩,
    ⟨(some 15), 240, (some (13, false)), .mv (.t 5)⟩,
    ⟨(some 16), 256, (some (13, false)), .ixs (.t 14) (.t 15)⟩,
    ⟨(some 17), 272, (some (13, false)), .bi false .lss (.t 16) (.c (.int .u8 48))⟩,
    ⟨(some 18), 288, none, .pick (.t 13) (.c (.bool true)) (.t 17)⟩,
    ⟨(some 19), 304, none, .mv (.t 18)⟩,
    ⟨(some 20), 320, (some (19, false)), .mv (.t 0)⟩,
    ⟨(some 21), 336, (some (19, false)), .mv (.t 5)⟩,
    ⟨(some 22), 352, (some (19, false)), .ixs (.t 20) (.t 21)⟩,
    ⟨(some 23), 368, (some (19, false)), .bi false .gtr (.t 22) (.c (.int .u8 57))⟩,
    ⟨(some 24), 384, none, .pick (.t 19) (.c (.bool true)) (.t 23)⟩])
  (.cond (.t 24) (.seq (.reg [⟨(some 2), 32, none, .mv (.c (.int .i64 0))⟩,
    ⟨(some 3), 48, none, .mv (.c (.bool false))⟩])
  .ret) .skip))
  (.reg [⟨(some 25), 400, none, .mv (.t 4)⟩,
    ⟨(some 26), 416, none, .bi false .mul (.t 25) (.c (.int .i64 10))⟩,
    ⟨(some 27), 432, none, .mv (.t 0)⟩,
    ⟨(some 28), 448, none, .mv (.t 5)⟩,
    ⟨(some 29), 464, none, .ixs (.t 27) (.t 28)⟩,
    ⟨(some 30), 480, none, .bi false .sub (.t 29) (.c (.int .u8 48))⟩,
    ⟨(some 31), 496, none, .cv false .i64 (.t 30)⟩,
    ⟨(some 32), 512, none, .bi false .add (.t 26) (.t 31)⟩,
    ⟨(some 4), 64, none, .mv (.t 32)⟩]))))
  (.reg [⟨(some 33), 528, none, .bi false .add (.t 8) (.c (.int .i64 1))⟩,
    ⟨(some 8), 128, none, .mv (.t 33)⟩]))))
def c53 : C := (.seq (.reg [⟨(some 2), 32, none, .mv (.c (.int .i64 0))⟩,
    ⟨(some 3), 48, none, .mv (.c (.bool false))⟩])
  (.seq (.reg [⟨(some 4), 64, none, .mv (.c (.int .i64 0))⟩])
  (.seq (.seq (.reg [⟨(some 6), 96, none, .mv (.t 0)⟩,
    ⟨(some 7), 112, none, .lens (.t 6)⟩,
    ⟨(some 8), 128, none, .mv (.c (.int .i64 0))⟩])
  (.block 0 (.loop c53L1)))
  (.seq (.reg [⟨(some 34), 544, none, .mv (.t 4)⟩,
    ⟨(some 35), 560, none, .mv (.t 0)⟩,
    ⟨(some 36), 576, none, .lens (.t 35)⟩,
    ⟨(some 37), 592, none, .bi false .gtr (.t 36) (.c (.int .i64 0))⟩,
    ⟨(some 2), 32, none, .mv (.t 34)⟩,
    ⟨(some 3), 48, none, .mv (.t 37)⟩])
  .ret))))
theorem fits53 : fits Tryd.prog false Tryd.f53 1 38 [(2, none), (3, none)] = some c53.er := by kernel_rfl
def c54L1 : C := (.seq (.seq (.reg [⟨(some 14), 224, none, .mv (.t 5)⟩,
    ⟨(some 15), 240, none, .mv (.t 0)⟩,
    ⟨(some 16), 256, none, .lens (.t 15)⟩,
    ⟨(some 17), 272, none, .bi false .lss (.t 14) (.t 16)⟩])
  (.cond (.t 17) .skip (.exit 0)))
  (.seq (.block 1 (.seq (.seq (.reg [⟨(some 20), 320, none, .mv (.t 0)⟩,
    ⟨(some 21), 336, none, .mv (.t 5)⟩,
    ⟨(some 22), 352, none, .ixs (.t 20) (.t 21)⟩,
    ⟨(some 23), 368, none, .bi false .lss (.t 22) (.c (.int .u8 48))⟩,
    ⟨(some 24), 384, none, .mv (.t 23)⟩,
    ⟨(some 25), 400, (some (24, false)), .mv (.t 0)⟩,
    ⟨(some 26), 416, (some (24, false)), .mv (.t 5)⟩,
    ⟨(some 27), 432, (some (24, false)), .ixs (.t 25) (.t 26)⟩,
    ⟨(some 28), 448, (some (24, false)), .bi false .gtr (.t 27) (.c (.int .u8 57))⟩,
    ⟨(some 29), 464, none, .pick (.t 24) (.c (.bool true)) (.t 28)⟩])
  (.cond (.t 29) (.seq (.reg [⟨(some 2), 32, none, .mv (.c (.int .i64 0))⟩,
    ⟨(some 3), 48, none, .mv (.c (.bool false))⟩])
  .ret) .skip))
  (.reg [⟨(some 30), 480, none, .mv (.t 4)⟩,
    ⟨(some 31), 496, none, .bi false .mul (.c (.int .i64 10)) (.t 30)⟩,
    ⟨(some 32), 512, none, .mv (.t 0)⟩,
    ⟨(some 33), 528, none, .mv (.t 5)⟩,
    ⟨(some 34), 544, none, .ixs (.t 32) (.t 33)⟩,
    ⟨(some 35), 560, none, .bi false .sub (.t 34) (.c (.int .u8 48))⟩,
    ⟨(some 36), 576, none, .cv false .i64 (.t 35)⟩,
    ⟨(some 37), 592, none, .bi false .add (.t 31) (.t 36)⟩,
    ⟨(some 4), 64, none, .mv (.t 37)⟩])))
  (.reg [⟨(some 18), 288, none, .mv (.t 5)⟩,
    ⟨(some 19), 304, none, .bi false .add (.t 18) (.c (.int .i64 1))⟩,
    ⟨(some 5), 80, none, .mv (.t 19)⟩])))
def c54 : C := (.seq (.reg [⟨(some 2), 32, none, .mv (.c (.int .i64 0))⟩,
    ⟨(some 3), 48, none, .mv (.c (.bool false))⟩])
  (.seq (.seq (.reg [⟨(some 6), 96, none, .mv (.t 0)⟩,
    ⟨(some 7), 112, none, .lens (.t 6)⟩,
    ⟨(some 8), 128, none, .bi false .lss (.t 7) (.c (.int .i64 1))⟩,
    ⟨(some 9), 144, none, .mv (.t 8)⟩,
    ⟨(some 10), 160, (some (9, false)), .mv (.t 0)⟩,
    ⟨(some 11), 176, (some (9, false)), .lens (.t 10)⟩,
    ⟨(some 12), 192, (some (9, false)), .bi false .gtr (.t 11) (.c (.int .i64 10))⟩,
    ⟨(some 13), 208, none, .pick (.t 9) (.c (.bool true)) (.t 12)⟩])
  (.cond (.t 13) (.seq (.reg [⟨(some 2), 32, none, .mv (.c (.int .i64 0))⟩,
    ⟨(some 3), 48, none, .mv (.c (.bool false))⟩])
  .ret) .skip))
  (.seq (.reg [⟨(some 4), 64, none, .mv (.c (.int .i64 0))⟩])
  (.seq (.seq (.reg [⟨(some 5), 80, none, .mv (.c (.int .i64 0))⟩])
  (.block 0 (.loop c54L1)))
  (.seq (.reg [⟨(some 38), 608, none, .mv (.t 4)⟩,
    ⟨(some 2), 32, none, .mv (.t 38)⟩,
    ⟨(some 3), 48, none, .mv (.c (.bool true))⟩])
  .ret)))))
theorem fits54 : fits Tryd.prog false Tryd.f54 1 39 [(2, none), (3, none)] = some c54.er := by kernel_rfl
def c38 : C := (.seq (.reg [⟨(some 0), 0, none, .mv (.c (.nil 1))⟩])
  (.seq (.reg [⟨(some 1), 16, none, .bs 9 1 [(.c (.str [111, 107])), (.c (.str [105, 99, 101])), (.c (.str [102, 97, 117, 108, 116]))]⟩,
    ⟨(some 0), 0, none, .mv (.t 1)⟩])
  .ret))
theorem fits38 : fits Tryd.prog false Tryd.f38 0 2 [(0, none)] = some c38.er := by kernel_rfl

/-- Digits behind a number. -/
def digs : Int → List UInt8 → Option Int
  | a, [] => some a
  | a, c :: cs => if c.toNat < 48 ∨ 57 < c.toNat then none else digs (10 * a + ((c.toNat : Int) - 48)) cs
def numF (s : List UInt8) : Option Int := if s.length < 1 ∨ 10 < s.length then none else digs 0 s
theorem digs_drop {s : List UInt8} {i : Nat} (a : Int) (h : i < s.length) : digs a (s.drop i) = if (s.getD i 0).toNat < 48 ∨ 57 < (s.getD i 0).toNat then none else digs (10 * a + (((s.getD i 0).toNat : Int) - 48)) (s.drop (i + 1)) := by
  rw [List.drop_eq_getElem_cons h]
  have : s.getD i 0 = s[i] := by simp [List.getD, h]
  rw [this]; rfl
theorem pow10_le (i : Nat) (h : i ≤ 10) : (10 : Int) ^ i ≤ 10000000000 := (show ∀ i : Nat, i < 11 → (10 : Int) ^ i ≤ 10000000000 by decide) i (by omega)
theorem u8min : IntKind.u8.min = 0 := by decide
theorem u8max : IntKind.u8.max = 255 := by decide

set_option maxRecDepth 100000 in
set_option maxHeartbeats 8000000 in
theorem call53 (s : List UInt8) (hs : s.length ≤ 4611686018427387904) : PureCall Tryd.prog 53 [.str s] [] ⟨.tup [.int .i64 ((numF s).getD 0), .bool (numF s).isSome], [], []⟩ := by
  refine pure_call mix Tryd.func53 fits53 rfl ?_
  conv => whnf
  refine ⟨trivial, ?_⟩
  refine LSem.loop (n := 38) mix (α := Nat × Int) (fun x => x.1 ≤ s.length ∧ x.1 ≤ 10 ∧ digs x.2 (s.drop x.1) = digs 0 s ∧ 0 ≤ x.2 ∧ x.2 < (10 : Int) ^ x.1)
    (fun x => [(0, .str s), (4, .int .i64 x.2), (7, .int .i64 s.length), (8, .int .i64 x.1)])
    (fun x => []) (fun x => s.length - x.1) (0, 0) ?_ ?_ ?_
  · exact ⟨Nat.zero_le _, Nat.zero_le _, rfl, Int.le_refl _, by decide⟩
  · refine ⟨rfl, rfl, ?_, ?_⟩
    all_goals repeat' (first | exact True.intro | refine leF_cons rfl ?_ ?_ | refine leS_cons rfl ?_ ?_ | (show PLe _ _ _ _; conv => whnf) | (show SLe _ _ _ _; conv => whnf) | (show PLeL _ _ _ _; conv => whnf) | apply And.intro | rfl | exact Nat.le_refl _ | exact fun _ _ => rfl | exact rowEq0 _ _)
    all_goals skip
  · intro x hx
    obtain ⟨i, a⟩ := x
    obtain ⟨h1, h10, h2, h3, h4⟩ := hx
    dsimp only at h1 h10 h2 h3 h4
    have hj : ((i : Int)).toNat = i := by omega
    have hpow := pow10_le i h10
    have hpow2 : (10 : Int) ^ (i + 1) = 10 * 10 ^ i := by rw [Int.pow_succ, Int.mul_comm]
    conv => whnf
    refine ⟨trivial, fun hc => ?_, fun hc => ?_⟩
    · replace hc := of_decide_eq_true hc
      have hlt : i < s.length := by
        have h : (i : Int) < s.length := hc
        omega
      have hd := digs_drop a hlt
      have hb : (s.getD i 0).toNat < 256 := UInt8.toNat_lt _
      by_cases h11 : i = 10
      · have hn : numF s = none := by unfold numF; rw [if_pos (by omega)]
        rw [hn]
        subst h11
        conv => whnf
        refine ⟨?_, fun hc2 => ?_, fun hc2 => (by cases hc2)⟩
        · (try conv => whnf)
          (repeat' (first | exact True.intro | exact fun _ h => h | refine inR64_of ?_ ?_ | apply And.intro | refine maxLen_ge ?_)) <;> (first | omega | decide | (dsimp only; omega) | (dsimp only [List.length_cons, List.length_nil]; omega) | (intro hg; rw [hg]; rfl) | (intro hg hh; rw [hg, hh]; rfl) | (intro hg; simp [-List.getD_eq_getElem?_getD, -Int.default_eq_zero] at hg; first | omega | (refine inR64_of ?_ ?_ <;> omega) | (constructor <;> omega)) | (simp [-List.getD_eq_getElem?_getD, -Int.default_eq_zero]; done))
        conv => whnf
        refine ⟨?_, [], ?_⟩
        · (try conv => whnf)
          (repeat' (first | exact True.intro | exact fun _ h => h | refine inR64_of ?_ ?_ | apply And.intro | refine maxLen_ge ?_)) <;> (first | omega | decide | (dsimp only; omega) | (dsimp only [List.length_cons, List.length_nil]; omega) | (intro hg; rw [hg]; rfl) | (intro hg hh; rw [hg, hh]; rfl) | (intro hg; simp [-List.getD_eq_getElem?_getD, -Int.default_eq_zero] at hg; first | omega | (refine inR64_of ?_ ?_ <;> omega) | (constructor <;> omega)) | (simp [-List.getD_eq_getElem?_getD, -Int.default_eq_zero]; done))
        conv => whnf
        refine ⟨rfl, ?_, trivial, trivial⟩
        all_goals repeat' (first | exact True.intro | refine leF_cons rfl ?_ ?_ | refine leS_cons rfl ?_ ?_ | (show PLe _ _ _ _; conv => whnf) | (show SLe _ _ _ _; conv => whnf) | (show PLeL _ _ _ _; conv => whnf) | apply And.intro | rfl | exact Nat.le_refl _ | exact fun _ _ => rfl | exact rowEq0 _ _)
      have h11b : ((i : Int) == 10) = false := by simp; omega
      conv => whnf
      dsimp only
      rw [h11b, hj]
      refine ⟨?_, fun hc2 => ?_, fun hc2 => ?_⟩
      · (try conv => whnf)
        (repeat' (first | exact True.intro | exact fun _ h => h | refine inR64_of ?_ ?_ | apply And.intro | refine maxLen_ge ?_)) <;> (first | omega | decide | (dsimp only; omega) | (dsimp only [List.length_cons, List.length_nil]; omega) | (intro hg; rw [hg]; rfl) | (intro hg hh; rw [hg, hh]; rfl) | (intro hg; simp [-List.getD_eq_getElem?_getD, -Int.default_eq_zero] at hg; first | omega | (refine inR64_of ?_ ?_ <;> omega) | (constructor <;> omega)) | (simp [-List.getD_eq_getElem?_getD, -Int.default_eq_zero]; done))
      · simp only [bif_t, bif_f, decide_eq_true_eq, decide_eq_false_iff_not, Bool.not_eq_true', Bool.not_eq_false', Bool.and_eq_true, Bool.or_eq_true, Bool.and_eq_false_iff, Bool.or_eq_false_iff, beq_iff_eq, bne_iff_ne, beq_eq_false_iff_ne, bne_eq_false_iff_eq, reduceCtorEq, false_and, and_false, true_and, and_true, or_false, false_or, or_true, true_or, not_true_eq_false, not_false_eq_true, Int.toNat_zero] at hc2
        have hn : numF s = none := by
          unfold numF; split
          · rfl
          · rw [← h2, hd, if_pos (by omega)]
        rw [hn]
        conv => whnf
        refine ⟨?_, [], ?_⟩
        · (try conv => whnf)
          (repeat' (first | exact True.intro | exact fun _ h => h | refine inR64_of ?_ ?_ | apply And.intro | refine maxLen_ge ?_)) <;> (first | omega | decide | (dsimp only; omega) | (dsimp only [List.length_cons, List.length_nil]; omega) | (intro hg; rw [hg]; rfl) | (intro hg hh; rw [hg, hh]; rfl) | (intro hg; simp [-List.getD_eq_getElem?_getD, -Int.default_eq_zero] at hg; first | omega | (refine inR64_of ?_ ?_ <;> omega) | (constructor <;> omega)) | (simp [-List.getD_eq_getElem?_getD, -Int.default_eq_zero]; done))
        conv => whnf
        refine ⟨rfl, ?_, trivial, trivial⟩
        all_goals repeat' (first | exact True.intro | refine leF_cons rfl ?_ ?_ | refine leS_cons rfl ?_ ?_ | (show PLe _ _ _ _; conv => whnf) | (show SLe _ _ _ _; conv => whnf) | (show PLeL _ _ _ _; conv => whnf) | apply And.intro | rfl | exact Nat.le_refl _ | exact fun _ _ => rfl | exact rowEq0 _ _)
      · simp only [bif_t, bif_f, decide_eq_true_eq, decide_eq_false_iff_not, Bool.not_eq_true', Bool.not_eq_false', Bool.and_eq_true, Bool.or_eq_true, Bool.and_eq_false_iff, Bool.or_eq_false_iff, beq_iff_eq, bne_iff_ne, beq_eq_false_iff_ne, bne_eq_false_iff_eq, reduceCtorEq, false_and, and_false, true_and, and_true, or_false, false_or, or_true, true_or, not_true_eq_false, not_false_eq_true, Int.toNat_zero] at hc2
        rw [if_neg (by omega)] at hd
        conv => whnf
        refine ⟨?_, (i + 1, 10 * a + (((s.getD i 0).toNat : Int) - 48)), ⟨hlt, by dsimp only; omega, by rw [← hd]; exact h2, ?_, ?_⟩, ?_, rfl, rfl, ?_, ?_⟩
        · (try conv => whnf)
          try dsimp only
          rw [hj]
          (repeat' (first | exact True.intro | exact fun _ h => h | refine inR64_of ?_ ?_ | apply And.intro)) <;> (first | omega | (rw [u8min]; omega) | (rw [u8max]; omega))
        · dsimp only; omega
        · dsimp only; rw [hpow2]; omega
        · dsimp only; omega
        all_goals repeat' (first | exact True.intro | refine leF_cons rfl ?_ ?_ | refine leS_cons rfl ?_ ?_ | (show PLe _ _ _ _; conv => whnf) | (show SLe _ _ _ _; conv => whnf) | (show PLeL _ _ _ _; conv => whnf) | apply And.intro | rfl | exact Nat.le_refl _ | exact fun _ _ => rfl | exact rowEq0 _ _)
        all_goals first | omega | (dsimp only; rw [hj]; omega) | skip
    · replace hc := of_decide_eq_false hc
      have hk : i = s.length := by
        have h : ¬ (i : Int) < s.length := hc
        omega
      subst hk
      have hn : a = (numF s).getD 0 ∧ decide ((s.length : Int) > 0) = (numF s).isSome := by
        rw [List.drop_length] at h2
        have h2' : digs 0 s = some a := h2.symm
        unfold numF
        by_cases h0 : s.length = 0
        · rw [if_pos (by omega)]
          have : s = [] := List.length_eq_zero_iff.1 h0
          subst this
          have ha : (0 : Int) = a := by injection h2'
          rw [← ha]; exact ⟨rfl, rfl⟩
        · rw [if_neg (by omega), h2']
          refine ⟨rfl, ?_⟩
          rw [decide_eq_true (by omega)]; rfl
      conv => whnf
      dsimp only
      rw [← hn.1, ← hn.2]
      refine ⟨?_, [], ?_⟩
      · (try conv => whnf)
        (repeat' (first | exact True.intro | exact fun _ h => h | refine inR64_of ?_ ?_ | apply And.intro | refine maxLen_ge ?_)) <;> (first | omega | decide | (dsimp only; omega) | (dsimp only [List.length_cons, List.length_nil]; omega) | (intro hg; rw [hg]; rfl) | (intro hg hh; rw [hg, hh]; rfl) | (intro hg; simp [-List.getD_eq_getElem?_getD, -Int.default_eq_zero] at hg; first | omega | (refine inR64_of ?_ ?_ <;> omega) | (constructor <;> omega)) | (simp [-List.getD_eq_getElem?_getD, -Int.default_eq_zero]; done))
      conv => whnf
      refine ⟨rfl, ?_, trivial, trivial⟩
      all_goals repeat' (first | exact True.intro | refine leF_cons rfl ?_ ?_ | refine leS_cons rfl ?_ ?_ | (show PLe _ _ _ _; conv => whnf) | (show SLe _ _ _ _; conv => whnf) | (show PLeL _ _ _ _; conv => whnf) | apply And.intro | rfl | exact Nat.le_refl _ | exact fun _ _ => rfl | exact rowEq0 _ _)
set_option maxRecDepth 100000 in
set_option maxHeartbeats 8000000 in
theorem call54 (s : List UInt8) (hs : s.length ≤ 4611686018427387904) : PureCall Tryd.prog 54 [.str s] [] ⟨.tup [.int .i64 ((numF s).getD 0), .bool (numF s).isSome], [], []⟩ := by
  refine pure_call mix Tryd.func54 fits54 rfl ?_
  conv => whnf
  refine ⟨?_, fun hc => ?_, fun hc => ?_⟩
  · (try conv => whnf)
    (repeat' (first | exact True.intro | exact fun _ h => h | refine inR64_of ?_ ?_ | apply And.intro | refine maxLen_ge ?_)) <;> (first | omega | decide | (dsimp only; omega) | (dsimp only [List.length_cons, List.length_nil]; omega) | (intro hg; rw [hg]; rfl) | (intro hg hh; rw [hg, hh]; rfl) | (intro hg; simp [-List.getD_eq_getElem?_getD, -Int.default_eq_zero] at hg; first | omega | (refine inR64_of ?_ ?_ <;> omega) | (constructor <;> omega)) | (simp [-List.getD_eq_getElem?_getD, -Int.default_eq_zero]; done))
  · simp only [bif_t, bif_f, decide_eq_true_eq, decide_eq_false_iff_not, Bool.not_eq_true', Bool.not_eq_false', Bool.and_eq_true, Bool.or_eq_true, Bool.and_eq_false_iff, Bool.or_eq_false_iff, beq_iff_eq, bne_iff_ne, beq_eq_false_iff_ne, bne_eq_false_iff_eq, reduceCtorEq, false_and, and_false, true_and, and_true, or_false, false_or, or_true, true_or, not_true_eq_false, not_false_eq_true, Int.toNat_zero] at hc
    have hn : numF s = none := by unfold numF; rw [if_pos (by omega)]
    rw [hn]
    conv => whnf
    refine ⟨?_, [], ?_⟩
    · (try conv => whnf)
      (repeat' (first | exact True.intro | exact fun _ h => h | refine inR64_of ?_ ?_ | apply And.intro | refine maxLen_ge ?_)) <;> (first | omega | decide | (dsimp only; omega) | (dsimp only [List.length_cons, List.length_nil]; omega) | (intro hg; rw [hg]; rfl) | (intro hg hh; rw [hg, hh]; rfl) | (intro hg; simp [-List.getD_eq_getElem?_getD, -Int.default_eq_zero] at hg; first | omega | (refine inR64_of ?_ ?_ <;> omega) | (constructor <;> omega)) | (simp [-List.getD_eq_getElem?_getD, -Int.default_eq_zero]; done))
    conv => whnf
    refine ⟨rfl, ?_, trivial, trivial⟩
    all_goals repeat' (first | exact True.intro | refine leF_cons rfl ?_ ?_ | refine leS_cons rfl ?_ ?_ | (show PLe _ _ _ _; conv => whnf) | (show SLe _ _ _ _; conv => whnf) | (show PLeL _ _ _ _; conv => whnf) | apply And.intro | rfl | exact Nat.le_refl _ | exact fun _ _ => rfl | exact rowEq0 _ _)
  simp only [bif_t, bif_f, decide_eq_true_eq, decide_eq_false_iff_not, Bool.not_eq_true', Bool.not_eq_false', Bool.and_eq_true, Bool.or_eq_true, Bool.and_eq_false_iff, Bool.or_eq_false_iff, beq_iff_eq, bne_iff_ne, beq_eq_false_iff_ne, bne_eq_false_iff_eq, reduceCtorEq, false_and, and_false, true_and, and_true, or_false, false_or, or_true, true_or, not_true_eq_false, not_false_eq_true, Int.toNat_zero] at hc
  have hn : numF s = digs 0 s := by unfold numF; rw [if_neg (by omega)]
  have hl : 1 ≤ s.length ∧ s.length ≤ 10 := by omega
  rw [hn]
  clear hn hc hs
  conv => whnf
  refine ⟨trivial, ?_⟩
  refine LSem.loop (n := 39) mix (α := Nat × Int) (fun x => x.1 ≤ s.length ∧ digs x.2 (s.drop x.1) = digs 0 s ∧ 0 ≤ x.2 ∧ x.2 < (10 : Int) ^ x.1)
    (fun x => [(0, .str s), (4, .int .i64 x.2), (5, .int .i64 x.1)])
    (fun x => []) (fun x => s.length - x.1) (0, 0) ?_ ?_ ?_
  · exact ⟨Nat.zero_le _, rfl, Int.le_refl _, by decide⟩
  · refine ⟨rfl, rfl, ?_, ?_⟩
    all_goals repeat' (first | exact True.intro | refine leF_cons rfl ?_ ?_ | refine leS_cons rfl ?_ ?_ | (show PLe _ _ _ _; conv => whnf) | (show SLe _ _ _ _; conv => whnf) | (show PLeL _ _ _ _; conv => whnf) | apply And.intro | rfl | exact Nat.le_refl _ | exact fun _ _ => rfl | exact rowEq0 _ _)
    all_goals skip
  · intro x hx
    obtain ⟨i, a⟩ := x
    obtain ⟨h1, h2, h3, h4⟩ := hx
    dsimp only at h1 h2 h3 h4
    have hj : ((i : Int)).toNat = i := by omega
    have hpow := pow10_le i (by omega)
    have hpow2 : (10 : Int) ^ (i + 1) = 10 * 10 ^ i := by rw [Int.pow_succ, Int.mul_comm]
    conv => whnf
    refine ⟨trivial, fun hc => ?_, fun hc => ?_⟩
    · replace hc := of_decide_eq_true hc
      have hlt : i < s.length := by
        have h : (i : Int) < s.length := hc
        omega
      have hd := digs_drop a hlt
      have hb : (s.getD i 0).toNat < 256 := UInt8.toNat_lt _
      conv => whnf
      dsimp only
      rw [hj]
      refine ⟨?_, fun hc2 => ?_, fun hc2 => ?_⟩
      · (try conv => whnf)
        (repeat' (first | exact True.intro | exact fun _ h => h | refine inR64_of ?_ ?_ | apply And.intro | refine maxLen_ge ?_)) <;> (first | omega | decide | (dsimp only; omega) | (dsimp only [List.length_cons, List.length_nil]; omega) | (intro hg; rw [hg]; rfl) | (intro hg hh; rw [hg, hh]; rfl) | (intro hg; simp [-List.getD_eq_getElem?_getD, -Int.default_eq_zero] at hg; first | omega | (refine inR64_of ?_ ?_ <;> omega) | (constructor <;> omega)) | (simp [-List.getD_eq_getElem?_getD, -Int.default_eq_zero]; done))
      · simp only [bif_t, bif_f, decide_eq_true_eq, decide_eq_false_iff_not, Bool.not_eq_true', Bool.not_eq_false', Bool.and_eq_true, Bool.or_eq_true, Bool.and_eq_false_iff, Bool.or_eq_false_iff, beq_iff_eq, bne_iff_ne, beq_eq_false_iff_ne, bne_eq_false_iff_eq, reduceCtorEq, false_and, and_false, true_and, and_true, or_false, false_or, or_true, true_or, not_true_eq_false, not_false_eq_true, Int.toNat_zero] at hc2
        have hd0 : digs 0 s = none := by rw [← h2, hd, if_pos (by omega)]
        rw [hd0]
        conv => whnf
        refine ⟨?_, [], ?_⟩
        · (try conv => whnf)
          (repeat' (first | exact True.intro | exact fun _ h => h | refine inR64_of ?_ ?_ | apply And.intro | refine maxLen_ge ?_)) <;> (first | omega | decide | (dsimp only; omega) | (dsimp only [List.length_cons, List.length_nil]; omega) | (intro hg; rw [hg]; rfl) | (intro hg hh; rw [hg, hh]; rfl) | (intro hg; simp [-List.getD_eq_getElem?_getD, -Int.default_eq_zero] at hg; first | omega | (refine inR64_of ?_ ?_ <;> omega) | (constructor <;> omega)) | (simp [-List.getD_eq_getElem?_getD, -Int.default_eq_zero]; done))
        conv => whnf
        refine ⟨rfl, ?_, trivial, trivial⟩
        all_goals repeat' (first | exact True.intro | refine leF_cons rfl ?_ ?_ | refine leS_cons rfl ?_ ?_ | (show PLe _ _ _ _; conv => whnf) | (show SLe _ _ _ _; conv => whnf) | (show PLeL _ _ _ _; conv => whnf) | apply And.intro | rfl | exact Nat.le_refl _ | exact fun _ _ => rfl | exact rowEq0 _ _)
      · simp only [bif_t, bif_f, decide_eq_true_eq, decide_eq_false_iff_not, Bool.not_eq_true', Bool.not_eq_false', Bool.and_eq_true, Bool.or_eq_true, Bool.and_eq_false_iff, Bool.or_eq_false_iff, beq_iff_eq, bne_iff_ne, beq_eq_false_iff_ne, bne_eq_false_iff_eq, reduceCtorEq, false_and, and_false, true_and, and_true, or_false, false_or, or_true, true_or, not_true_eq_false, not_false_eq_true, Int.toNat_zero] at hc2
        rw [if_neg (by omega)] at hd
        conv => whnf
        refine ⟨?_, (i + 1, 10 * a + (((s.getD i 0).toNat : Int) - 48)), ⟨hlt, by rw [← hd]; exact h2, ?_, ?_⟩, ?_, rfl, rfl, ?_, ?_⟩
        · (try conv => whnf)
          try dsimp only
          rw [hj]
          (repeat' (first | exact True.intro | exact fun _ h => h | refine inR64_of ?_ ?_ | apply And.intro)) <;> (first | omega | (rw [u8min]; omega) | (rw [u8max]; omega))
        · dsimp only; omega
        · dsimp only; rw [hpow2]; omega
        · dsimp only; omega
        all_goals repeat' (first | exact True.intro | refine leF_cons rfl ?_ ?_ | refine leS_cons rfl ?_ ?_ | (show PLe _ _ _ _; conv => whnf) | (show SLe _ _ _ _; conv => whnf) | (show PLeL _ _ _ _; conv => whnf) | apply And.intro | rfl | exact Nat.le_refl _ | exact fun _ _ => rfl | exact rowEq0 _ _)
        all_goals first | omega | (dsimp only; rw [hj]; omega) | (dsimp only; rw [hj]; done) | skip
    · replace hc := of_decide_eq_false hc
      have hk : i = s.length := by
        have h : ¬ (i : Int) < s.length := hc
        omega
      subst hk
      rw [← h2, List.drop_length]
      conv => whnf
      refine ⟨?_, [], ?_⟩
      · (try conv => whnf)
        (repeat' (first | exact True.intro | exact fun _ h => h | refine inR64_of ?_ ?_ | apply And.intro | refine maxLen_ge ?_)) <;> (first | omega | decide | (dsimp only; omega) | (dsimp only [List.length_cons, List.length_nil]; omega) | (intro hg; rw [hg]; rfl) | (intro hg hh; rw [hg, hh]; rfl) | (intro hg; simp [-List.getD_eq_getElem?_getD, -Int.default_eq_zero] at hg; first | omega | (refine inR64_of ?_ ?_ <;> omega) | (constructor <;> omega)) | (simp [-List.getD_eq_getElem?_getD, -Int.default_eq_zero]; done))
      conv => whnf
      refine ⟨rfl, ?_, trivial, trivial⟩
      all_goals repeat' (first | exact True.intro | refine leF_cons rfl ?_ ?_ | refine leS_cons rfl ?_ ?_ | (show PLe _ _ _ _; conv => whnf) | (show SLe _ _ _ _; conv => whnf) | (show PLeL _ _ _ _; conv => whnf) | apply And.intro | rfl | exact Nat.le_refl _ | exact fun _ _ => rfl | exact rowEq0 _ _)
set_option maxRecDepth 100000 in
theorem call38 : PureCall Tryd.prog 38 [] [] ⟨.os 1000000000, [], [.row 0 9 1 3 (fl eStr flagWords)]⟩ := by
  refine pure_call mix Tryd.func38 fits38 rfl ?_
  conv => whnf
  refine ⟨?_, [16], ?_⟩
  · (try conv => whnf)
    (repeat' (first | exact True.intro | exact fun _ h => h | refine inR64_of ?_ ?_ | apply And.intro | refine maxLen_ge ?_)) <;> (first | omega | decide | (dsimp only; omega) | (dsimp only [List.length_cons, List.length_nil]; omega) | (intro hg; rw [hg]; rfl) | (intro hg hh; rw [hg, hh]; rfl) | (intro hg; simp [-List.getD_eq_getElem?_getD, -Int.default_eq_zero] at hg; first | omega | (refine inR64_of ?_ ?_ <;> omega) | (constructor <;> omega)) | (simp [-List.getD_eq_getElem?_getD, -Int.default_eq_zero]; done))
  conv => whnf
  refine ⟨rfl, ?_, trivial, ?_⟩
  all_goals repeat' (first | exact True.intro | refine leF_cons rfl ?_ ?_ | refine leS_cons rfl ?_ ?_ | (show PLe _ _ _ _; conv => whnf) | (show SLe _ _ _ _; conv => whnf) | (show PLeL _ _ _ _; conv => whnf) | apply And.intro | rfl | exact Nat.le_refl _ | exact fun _ _ => rfl | exact rowEq0 _ _)
  all_goals (intro i hi; match i, hi with | 0, _ => rfl | 1, _ => rfl | 2, _ => rfl)
end Pv
end Go.Proofs.YtgbknfbcjddnhaaDoor

/- LAW 06, THE WALKS: a line's words as a reading. -/
set_option linter.unusedSimpArgs false
set_option linter.unusedVariables false
namespace Go.Proofs.YtgbknfbcjddnhaaDoor
namespace Pv
def c41L1 : C := (.seq (.reg [⟨(some 20), 320, none, .bi false .lss (.t 19) (.c (.int .i64 3))⟩])
  (.seq (.cond (.t 20) .skip (.exit 0))
  (.seq (.block 1 (.seq (.reg [⟨(some 21), 336, none, .mv (.t 19)⟩,
    ⟨(some 22), 352, none, .ixa 3 1 false (.t 18) (.t 19)⟩,
    ⟨(some 5), 80, none, .mv (.t 21)⟩,
    ⟨(some 6), 96, none, .mv (.t 22)⟩])
  (.seq (.reg [⟨(some 24), 384, none, .mv (.t 0)⟩,
    ⟨(some 25), 400, none, .mv (.t 5)⟩,
    ⟨(some 26), 416, none, .ia 1 (.t 24) (.t 25)⟩,
    ⟨(some 27), 432, none, .ld 1 false (.t 26)⟩,
    ⟨(some 28), 448, none, .call (.c (.fn (.func 53) [] [])) [(.t 27)]⟩,
    ⟨(some 23), 368, none, .mv (.t 28)⟩,
    ⟨(some 29), 464, none, .ex (.t 23) 0⟩,
    ⟨(some 30), 480, none, .ex (.t 23) 1⟩,
    ⟨(some 7), 112, none, .mv (.t 29)⟩,
    ⟨(some 8), 128, none, .mv (.t 30)⟩])
  (.seq (.seq (.reg [⟨(some 31), 496, none, .mv (.t 8)⟩,
    ⟨(some 32), 512, none, .un false .not (.t 31)⟩])
  (.cond (.t 32) (.seq (.reg [⟨(some 33), 528, none, .ld 4 true (.t 4)⟩,
    ⟨none, 0, none, .st 4 (.t 2) (.t 33)⟩,
    ⟨(some 3), 48, none, .mv (.c (.bool false))⟩])
  .ret) .skip))
  (.reg [⟨(some 34), 544, none, .mv (.t 6)⟩,
    ⟨(some 35), 560, none, .mv (.t 7)⟩,
    ⟨(some 36), 576, none, .nc (.t 34)⟩,
    ⟨none, 0, none, .st 1 (.t 36) (.t 35)⟩])))))
  (.reg [⟨(some 37), 592, none, .bi false .add (.t 19) (.c (.int .i64 1))⟩,
    ⟨(some 19), 304, none, .mv (.t 37)⟩]))))
def c41L2 : C := (.seq (.reg [⟨(some 40), 640, none, .bi false .lss (.t 39) (.c (.int .i64 3))⟩])
  (.seq (.cond (.t 40) .skip (.exit 2))
  (.seq (.block 3 (.seq (.reg [⟨(some 41), 656, none, .mv (.t 39)⟩,
    ⟨(some 42), 672, none, .ixa 3 1 false (.t 38) (.t 39)⟩,
    ⟨(some 9), 144, none, .mv (.t 41)⟩,
    ⟨(some 10), 160, none, .mv (.t 42)⟩])
  (.seq (.reg [⟨(some 43), 688, none, .mv (.t 10)⟩,
    ⟨(some 44), 704, none, .mv (.t 0)⟩,
    ⟨(some 45), 720, none, .ia 1 (.t 44) (.c (.int .i64 3))⟩,
    ⟨(some 46), 736, none, .ld 1 false (.t 45)⟩,
    ⟨(some 47), 752, none, .bi false .eql (.t 43) (.t 46)⟩])
  (.cond (.t 47) (.seq (.reg [⟨(some 48), 768, none, .mv (.t 9)⟩,
    ⟨(some 49), 784, none, .fa 3 (.t 4)⟩,
    ⟨none, 0, none, .st 1 (.t 49) (.t 48)⟩])
  (.seq (.reg [⟨(some 50), 800, none, .ld 4 true (.t 4)⟩,
    ⟨none, 0, none, .st 4 (.t 2) (.t 50)⟩,
    ⟨(some 3), 48, none, .mv (.c (.bool true))⟩])
  .ret)) .skip))))
  (.reg [⟨(some 51), 816, none, .bi false .add (.t 39) (.c (.int .i64 1))⟩,
    ⟨(some 39), 624, none, .mv (.t 51)⟩]))))
def c41 : C := (.seq (.reg [⟨(some 2), 32, none, .al [(.int .i64 0), (.int .i64 0), (.int .i64 0), (.int .i64 0)]⟩,
    ⟨(some 3), 48, none, .mv (.c (.bool false))⟩])
  (.seq (.reg [⟨(some 4), 64, none, .al [(.int .i64 0), (.int .i64 0), (.int .i64 0), (.int .i64 0)]⟩])
  (.seq (.seq (.reg [⟨(some 11), 176, none, .mv (.t 0)⟩,
    ⟨(some 12), 192, none, .len (.t 11)⟩,
    ⟨(some 13), 208, none, .bi false .neq (.t 12) (.c (.int .i64 4))⟩])
  (.cond (.t 13) (.seq (.reg [⟨(some 14), 224, none, .ld 4 true (.t 4)⟩,
    ⟨none, 0, none, .st 4 (.t 2) (.t 14)⟩,
    ⟨(some 3), 48, none, .mv (.c (.bool false))⟩])
  .ret) .skip))
  (.seq (.seq (.reg [⟨(some 15), 240, none, .fa 0 (.t 4)⟩,
    ⟨(some 16), 256, none, .fa 1 (.t 4)⟩,
    ⟨(some 17), 272, none, .fa 2 (.t 4)⟩,
    ⟨(some 18), 288, none, .bd [(.raw (.pointer none)), (.raw (.pointer none)), (.raw (.pointer none))] [(0, 1, (.t 15)), (1, 1, (.t 16)), (2, 1, (.t 17))]⟩,
    ⟨(some 19), 304, none, .mv (.c (.int .i64 0))⟩])
  (.block 0 (.loop c41L1)))
  (.seq (.seq (.reg [⟨(some 38), 608, none, .ld 3 true (.c (.rp 1 [(.str [111, 107]), (.str [105, 99, 101]), (.str [102, 97, 117, 108, 116])]))⟩,
    ⟨(some 39), 624, none, .mv (.c (.int .i64 0))⟩])
  (.block 2 (.loop c41L2)))
  (.seq (.reg [⟨(some 52), 832, none, .ld 4 true (.t 4)⟩,
    ⟨none, 0, none, .st 4 (.t 2) (.t 52)⟩,
    ⟨(some 3), 48, none, .mv (.c (.bool false))⟩])
  .ret))))))
theorem fits41 : fits Tryd.prog false Tryd.f41 1 53 [(2, some (4, true)), (3, none)] = some c41.er := by kernel_rfl

def nG (w : List (List UInt8)) (k : Nat) : Int := (numF (w.getD k default)).getD 0
def isG (w : List (List UInt8)) (k : Nat) : Bool := (numF (w.getD k default)).isSome
/-- A reading of which some fields are known. -/
def pR (w : List (List UInt8)) : Nat → Rd
  | 0 => ⟨0, 0, 0, 0⟩
  | 1 => ⟨nG w 0, 0, 0, 0⟩
  | 2 => ⟨nG w 0, nG w 1, 0, 0⟩
  | _ => ⟨nG w 0, nG w 1, nG w 2, 0⟩
def fl0 : List UInt8 := [111, 107]
def fl1 : List UInt8 := [105, 99, 101]
def fl2 : List UInt8 := [102, 97, 117, 108, 116]
/-- What gauge.line gives. -/
def lineG (w : List (List UInt8)) : Rd × Bool := if w.length ≠ 4 then (pR w 0, false) else
  if isG w 0 = false then (pR w 0, false) else if isG w 1 = false then (pR w 1, false) else if isG w 2 = false then (pR w 2, false) else
  if fl0 = w.getD 3 default then (⟨nG w 0, nG w 1, nG w 2, 0⟩, true) else if fl1 = w.getD 3 default then (⟨nG w 0, nG w 1, nG w 2, 1⟩, true) else
  if fl2 = w.getD 3 default then (⟨nG w 0, nG w 1, nG w 2, 2⟩, true) else (pR w 3, false)

set_option maxRecDepth 100000 in
set_option maxHeartbeats 8000000 in
theorem call41 (τ : Nat) (w : List (List UInt8)) (hw : w.length ≤ 4611686018427387904) (hs : ∀ k, k < w.length → (w.getD k default).length ≤ 4611686018427387904) : PureCall Tryd.prog 41 [.sl τ 1 w.length (fl eStr w)] [] ⟨.tup [.agg (eRd (lineG w).1), .bool (lineG w).2], [], []⟩ := by
  refine pure_call mix Tryd.func41 fits41 rfl ?_
  conv => whnf
  refine ⟨?_, fun hc => ?_, fun hc => ?_⟩
  · (try conv => whnf)
    (repeat' (first | exact True.intro | exact fun _ h => h | refine inR64_of ?_ ?_ | apply And.intro | refine maxLen_ge ?_)) <;> (first | omega | decide | (dsimp only; omega) | (dsimp only [List.length_cons, List.length_nil]; omega) | (intro hg; rw [hg]; rfl) | (intro hg hh; rw [hg, hh]; rfl) | (intro hg; simp [-List.getD_eq_getElem?_getD, -Int.default_eq_zero] at hg; first | omega | (refine inR64_of ?_ ?_ <;> omega) | (constructor <;> omega)) | (simp [-List.getD_eq_getElem?_getD, -Int.default_eq_zero]; done))
  · simp only [bif_t, bif_f, decide_eq_true_eq, decide_eq_false_iff_not, Bool.not_eq_true', Bool.not_eq_false', Bool.and_eq_true, Bool.or_eq_true, Bool.and_eq_false_iff, Bool.or_eq_false_iff, beq_iff_eq, bne_iff_ne, beq_eq_false_iff_ne, bne_eq_false_iff_eq, reduceCtorEq, false_and, and_false, true_and, and_true, or_false, false_or, or_true, true_or, not_true_eq_false, not_false_eq_true, Int.toNat_zero] at hc
    rw [show lineG w = (pR w 0, false) by unfold lineG; rw [if_pos (by omega)]]
    conv => whnf
    refine ⟨?_, [], ?_⟩
    · (try conv => whnf)
      (repeat' (first | exact True.intro | exact fun _ h => h | refine inR64_of ?_ ?_ | apply And.intro | refine maxLen_ge ?_)) <;> (first | omega | decide | (dsimp only; omega) | (dsimp only [List.length_cons, List.length_nil]; omega) | (intro hg; rw [hg]; rfl) | (intro hg hh; rw [hg, hh]; rfl) | (intro hg; simp [-List.getD_eq_getElem?_getD, -Int.default_eq_zero] at hg; first | omega | (refine inR64_of ?_ ?_ <;> omega) | (constructor <;> omega)) | (simp [-List.getD_eq_getElem?_getD, -Int.default_eq_zero]; done))
    conv => whnf
    refine ⟨rfl, ?_, trivial, trivial⟩
    all_goals repeat' (first | exact True.intro | refine leF_cons rfl ?_ ?_ | refine leS_cons rfl ?_ ?_ | (show PLe _ _ _ _; conv => whnf) | (show SLe _ _ _ _; conv => whnf) | (show PLeL _ _ _ _; conv => whnf) | apply And.intro | rfl | exact Nat.le_refl _ | exact fun _ _ => rfl | exact rowEq0 _ _)
  simp only [bif_t, bif_f, decide_eq_true_eq, decide_eq_false_iff_not, Bool.not_eq_true', Bool.not_eq_false', Bool.and_eq_true, Bool.or_eq_true, Bool.and_eq_false_iff, Bool.or_eq_false_iff, beq_iff_eq, bne_iff_ne, beq_eq_false_iff_ne, bne_eq_false_iff_eq, reduceCtorEq, false_and, and_false, true_and, and_true, or_false, false_or, or_true, true_or, not_true_eq_false, not_false_eq_true, Int.toNat_zero] at hc
  have hl : w.length = 4 := by omega
  conv => whnf
  refine ⟨?_, ?_⟩
  · (try conv => whnf)
    (repeat' (first | exact True.intro | exact fun _ h => h | refine inR64_of ?_ ?_ | apply And.intro | refine maxLen_ge ?_)) <;> (first | omega | decide | (dsimp only; omega) | (dsimp only [List.length_cons, List.length_nil]; omega) | (intro hg; rw [hg]; rfl) | (intro hg hh; rw [hg, hh]; rfl) | (intro hg; simp [-List.getD_eq_getElem?_getD, -Int.default_eq_zero] at hg; first | omega | (refine inR64_of ?_ ?_ <;> omega) | (constructor <;> omega)) | (simp [-List.getD_eq_getElem?_getD, -Int.default_eq_zero]; done))
  refine LSem.loop (n := 53) mix (α := Nat) (fun j => j ≤ 3 ∧ ∀ k, k < j → isG w k = true)
    (fun j => [(0, .sl τ 1 w.length (fl eStr w)), (2, .pt 32 0 0), (4, .pt 64 0 0), (18, .agg [.pt 64 0 0, .pt 64 0 1, .pt 64 0 2]), (19, .int .i64 j)])
    (fun j => [(32, .box [.int .i64 0, .int .i64 0, .int .i64 0, .int .i64 0]), (64, .box (eRd (pR w j)))]) (fun j => 3 - j) 0 ?_ ?_ ?_
  · exact ⟨Nat.zero_le _, fun k hk => absurd hk (Nat.not_lt_zero _)⟩
  · refine ⟨rfl, rfl, ?_, ?_⟩
    all_goals repeat' (first | exact True.intro | refine leF_cons rfl ?_ ?_ | refine leS_cons rfl ?_ ?_ | (show PLe _ _ _ _; conv => whnf) | (show SLe _ _ _ _; conv => whnf) | (show PLeL _ _ _ _; conv => whnf) | apply And.intro | rfl | exact Nat.le_refl _ | exact fun _ _ => rfl | exact rowEq0 _ _)
    all_goals skip
  · intro j hj
    obtain ⟨hj3, hall⟩ := hj
    have h0123 : j = 0 ∨ j = 1 ∨ j = 2 ∨ j = 3 := by omega
    rcases h0123 with rfl | rfl | rfl | rfl
    · conv => whnf
      refine ⟨trivial, fun hc => ?_, fun hc => (by cases hc)⟩
      conv => whnf
      refine ⟨_, fun _ => call53 (w.getD 0 default) (hs 0 (by omega)), ?_⟩
      conv => whnf
      cases hq : numF (w.getD 0 default) with
      | none =>
        rw [show lineG w = (pR w 0, false) by unfold lineG; rw [if_neg (by omega)]; rw [if_pos (show isG w 0 = false by unfold isG; rw [hq]; rfl)]]
        conv => whnf
        refine ⟨?_, fun _ => ?_, fun h => (by cases h)⟩
        · (try conv => whnf)
          (repeat' (first | exact True.intro | exact fun _ h => h | refine inR64_of ?_ ?_ | apply And.intro | refine maxLen_ge ?_)) <;> (first | omega | decide | (dsimp only; omega) | (dsimp only [List.length_cons, List.length_nil]; omega) | (intro hg; rw [hg]; rfl) | (intro hg hh; rw [hg, hh]; rfl) | (intro hg; simp [-List.getD_eq_getElem?_getD, -Int.default_eq_zero] at hg; first | omega | (refine inR64_of ?_ ?_ <;> omega) | (constructor <;> omega)) | (simp [-List.getD_eq_getElem?_getD, -Int.default_eq_zero]; done))
        conv => whnf
        refine ⟨?_, [], ?_⟩
        · (try conv => whnf)
          (repeat' (first | exact True.intro | exact fun _ h => h | refine inR64_of ?_ ?_ | apply And.intro | refine maxLen_ge ?_)) <;> (first | omega | decide | (dsimp only; omega) | (dsimp only [List.length_cons, List.length_nil]; omega) | (intro hg; rw [hg]; rfl) | (intro hg hh; rw [hg, hh]; rfl) | (intro hg; simp [-List.getD_eq_getElem?_getD, -Int.default_eq_zero] at hg; first | omega | (refine inR64_of ?_ ?_ <;> omega) | (constructor <;> omega)) | (simp [-List.getD_eq_getElem?_getD, -Int.default_eq_zero]; done))
        conv => whnf
        refine ⟨rfl, ?_, trivial, trivial⟩
        all_goals repeat' (first | exact True.intro | refine leF_cons rfl ?_ ?_ | refine leS_cons rfl ?_ ?_ | (show PLe _ _ _ _; conv => whnf) | (show SLe _ _ _ _; conv => whnf) | (show PLeL _ _ _ _; conv => whnf) | apply And.intro | rfl | exact Nat.le_refl _ | exact fun _ _ => rfl | exact rowEq0 _ _)
      | some v =>
        conv => whnf
        refine ⟨?_, fun h => (by cases h), fun _ => ?_⟩
        · (try conv => whnf)
          (repeat' (first | exact True.intro | exact fun _ h => h | refine inR64_of ?_ ?_ | apply And.intro | refine maxLen_ge ?_)) <;> (first | omega | decide | (dsimp only; omega) | (dsimp only [List.length_cons, List.length_nil]; omega) | (intro hg; rw [hg]; rfl) | (intro hg hh; rw [hg, hh]; rfl) | (intro hg; simp [-List.getD_eq_getElem?_getD, -Int.default_eq_zero] at hg; first | omega | (refine inR64_of ?_ ?_ <;> omega) | (constructor <;> omega)) | (simp [-List.getD_eq_getElem?_getD, -Int.default_eq_zero]; done))
        conv => whnf
        refine ⟨?_, 1, ⟨by omega, fun k hk => ?_⟩, ?_, rfl, rfl, ?_, ?_⟩
        · (try conv => whnf)
          (repeat' (first | exact True.intro | exact fun _ h => h | refine inR64_of ?_ ?_ | apply And.intro | refine maxLen_ge ?_)) <;> (first | omega | decide | (dsimp only; omega) | (dsimp only [List.length_cons, List.length_nil]; omega) | (intro hg; rw [hg]; rfl) | (intro hg hh; rw [hg, hh]; rfl) | (intro hg; simp [-List.getD_eq_getElem?_getD, -Int.default_eq_zero] at hg; first | omega | (refine inR64_of ?_ ?_ <;> omega) | (constructor <;> omega)) | (simp [-List.getD_eq_getElem?_getD, -Int.default_eq_zero]; done))
        · by_cases e : k = 0
          · rw [e]; unfold isG; rw [hq]; rfl
          · exact hall k (by omega)
        · omega
        all_goals repeat' (first | exact True.intro | refine leF_cons rfl ?_ ?_ | refine leS_cons rfl ?_ ?_ | (show PLe _ _ _ _; conv => whnf) | (show SLe _ _ _ _; conv => whnf) | (show PLeL _ _ _ _; conv => whnf) | apply And.intro | rfl | exact Nat.le_refl _ | exact fun _ _ => rfl | exact rowEq0 _ _)
        all_goals first | (unfold pR nG; rw [hq]; rfl) | (unfold nG; rw [hq]; rfl) | skip
    · conv => whnf
      refine ⟨trivial, fun hc => ?_, fun hc => (by cases hc)⟩
      conv => whnf
      refine ⟨_, fun _ => call53 (w.getD 1 default) (hs 1 (by omega)), ?_⟩
      conv => whnf
      cases hq : numF (w.getD 1 default) with
      | none =>
        rw [show lineG w = (pR w 1, false) by unfold lineG; rw [if_neg (by omega)]; rw [if_neg (show ¬ isG w 0 = false by rw [hall 0 (by omega)]; decide), if_pos (show isG w 1 = false by unfold isG; rw [hq]; rfl)]]
        conv => whnf
        refine ⟨?_, fun _ => ?_, fun h => (by cases h)⟩
        · (try conv => whnf)
          (repeat' (first | exact True.intro | exact fun _ h => h | refine inR64_of ?_ ?_ | apply And.intro | refine maxLen_ge ?_)) <;> (first | omega | decide | (dsimp only; omega) | (dsimp only [List.length_cons, List.length_nil]; omega) | (intro hg; rw [hg]; rfl) | (intro hg hh; rw [hg, hh]; rfl) | (intro hg; simp [-List.getD_eq_getElem?_getD, -Int.default_eq_zero] at hg; first | omega | (refine inR64_of ?_ ?_ <;> omega) | (constructor <;> omega)) | (simp [-List.getD_eq_getElem?_getD, -Int.default_eq_zero]; done))
        conv => whnf
        refine ⟨?_, [], ?_⟩
        · (try conv => whnf)
          (repeat' (first | exact True.intro | exact fun _ h => h | refine inR64_of ?_ ?_ | apply And.intro | refine maxLen_ge ?_)) <;> (first | omega | decide | (dsimp only; omega) | (dsimp only [List.length_cons, List.length_nil]; omega) | (intro hg; rw [hg]; rfl) | (intro hg hh; rw [hg, hh]; rfl) | (intro hg; simp [-List.getD_eq_getElem?_getD, -Int.default_eq_zero] at hg; first | omega | (refine inR64_of ?_ ?_ <;> omega) | (constructor <;> omega)) | (simp [-List.getD_eq_getElem?_getD, -Int.default_eq_zero]; done))
        conv => whnf
        refine ⟨rfl, ?_, trivial, trivial⟩
        all_goals repeat' (first | exact True.intro | refine leF_cons rfl ?_ ?_ | refine leS_cons rfl ?_ ?_ | (show PLe _ _ _ _; conv => whnf) | (show SLe _ _ _ _; conv => whnf) | (show PLeL _ _ _ _; conv => whnf) | apply And.intro | rfl | exact Nat.le_refl _ | exact fun _ _ => rfl | exact rowEq0 _ _)
      | some v =>
        conv => whnf
        refine ⟨?_, fun h => (by cases h), fun _ => ?_⟩
        · (try conv => whnf)
          (repeat' (first | exact True.intro | exact fun _ h => h | refine inR64_of ?_ ?_ | apply And.intro | refine maxLen_ge ?_)) <;> (first | omega | decide | (dsimp only; omega) | (dsimp only [List.length_cons, List.length_nil]; omega) | (intro hg; rw [hg]; rfl) | (intro hg hh; rw [hg, hh]; rfl) | (intro hg; simp [-List.getD_eq_getElem?_getD, -Int.default_eq_zero] at hg; first | omega | (refine inR64_of ?_ ?_ <;> omega) | (constructor <;> omega)) | (simp [-List.getD_eq_getElem?_getD, -Int.default_eq_zero]; done))
        conv => whnf
        refine ⟨?_, 2, ⟨by omega, fun k hk => ?_⟩, ?_, rfl, rfl, ?_, ?_⟩
        · (try conv => whnf)
          (repeat' (first | exact True.intro | exact fun _ h => h | refine inR64_of ?_ ?_ | apply And.intro | refine maxLen_ge ?_)) <;> (first | omega | decide | (dsimp only; omega) | (dsimp only [List.length_cons, List.length_nil]; omega) | (intro hg; rw [hg]; rfl) | (intro hg hh; rw [hg, hh]; rfl) | (intro hg; simp [-List.getD_eq_getElem?_getD, -Int.default_eq_zero] at hg; first | omega | (refine inR64_of ?_ ?_ <;> omega) | (constructor <;> omega)) | (simp [-List.getD_eq_getElem?_getD, -Int.default_eq_zero]; done))
        · by_cases e : k = 1
          · rw [e]; unfold isG; rw [hq]; rfl
          · exact hall k (by omega)
        · omega
        all_goals repeat' (first | exact True.intro | refine leF_cons rfl ?_ ?_ | refine leS_cons rfl ?_ ?_ | (show PLe _ _ _ _; conv => whnf) | (show SLe _ _ _ _; conv => whnf) | (show PLeL _ _ _ _; conv => whnf) | apply And.intro | rfl | exact Nat.le_refl _ | exact fun _ _ => rfl | exact rowEq0 _ _)
        all_goals first | (unfold pR nG; rw [hq]; rfl) | (unfold nG; rw [hq]; rfl) | skip
    · conv => whnf
      refine ⟨trivial, fun hc => ?_, fun hc => (by cases hc)⟩
      conv => whnf
      refine ⟨_, fun _ => call53 (w.getD 2 default) (hs 2 (by omega)), ?_⟩
      conv => whnf
      cases hq : numF (w.getD 2 default) with
      | none =>
        rw [show lineG w = (pR w 2, false) by unfold lineG; rw [if_neg (by omega)]; rw [if_neg (show ¬ isG w 0 = false by rw [hall 0 (by omega)]; decide), if_neg (show ¬ isG w 1 = false by rw [hall 1 (by omega)]; decide), if_pos (show isG w 2 = false by unfold isG; rw [hq]; rfl)]]
        conv => whnf
        refine ⟨?_, fun _ => ?_, fun h => (by cases h)⟩
        · (try conv => whnf)
          (repeat' (first | exact True.intro | exact fun _ h => h | refine inR64_of ?_ ?_ | apply And.intro | refine maxLen_ge ?_)) <;> (first | omega | decide | (dsimp only; omega) | (dsimp only [List.length_cons, List.length_nil]; omega) | (intro hg; rw [hg]; rfl) | (intro hg hh; rw [hg, hh]; rfl) | (intro hg; simp [-List.getD_eq_getElem?_getD, -Int.default_eq_zero] at hg; first | omega | (refine inR64_of ?_ ?_ <;> omega) | (constructor <;> omega)) | (simp [-List.getD_eq_getElem?_getD, -Int.default_eq_zero]; done))
        conv => whnf
        refine ⟨?_, [], ?_⟩
        · (try conv => whnf)
          (repeat' (first | exact True.intro | exact fun _ h => h | refine inR64_of ?_ ?_ | apply And.intro | refine maxLen_ge ?_)) <;> (first | omega | decide | (dsimp only; omega) | (dsimp only [List.length_cons, List.length_nil]; omega) | (intro hg; rw [hg]; rfl) | (intro hg hh; rw [hg, hh]; rfl) | (intro hg; simp [-List.getD_eq_getElem?_getD, -Int.default_eq_zero] at hg; first | omega | (refine inR64_of ?_ ?_ <;> omega) | (constructor <;> omega)) | (simp [-List.getD_eq_getElem?_getD, -Int.default_eq_zero]; done))
        conv => whnf
        refine ⟨rfl, ?_, trivial, trivial⟩
        all_goals repeat' (first | exact True.intro | refine leF_cons rfl ?_ ?_ | refine leS_cons rfl ?_ ?_ | (show PLe _ _ _ _; conv => whnf) | (show SLe _ _ _ _; conv => whnf) | (show PLeL _ _ _ _; conv => whnf) | apply And.intro | rfl | exact Nat.le_refl _ | exact fun _ _ => rfl | exact rowEq0 _ _)
      | some v =>
        conv => whnf
        refine ⟨?_, fun h => (by cases h), fun _ => ?_⟩
        · (try conv => whnf)
          (repeat' (first | exact True.intro | exact fun _ h => h | refine inR64_of ?_ ?_ | apply And.intro | refine maxLen_ge ?_)) <;> (first | omega | decide | (dsimp only; omega) | (dsimp only [List.length_cons, List.length_nil]; omega) | (intro hg; rw [hg]; rfl) | (intro hg hh; rw [hg, hh]; rfl) | (intro hg; simp [-List.getD_eq_getElem?_getD, -Int.default_eq_zero] at hg; first | omega | (refine inR64_of ?_ ?_ <;> omega) | (constructor <;> omega)) | (simp [-List.getD_eq_getElem?_getD, -Int.default_eq_zero]; done))
        conv => whnf
        refine ⟨?_, 3, ⟨by omega, fun k hk => ?_⟩, ?_, rfl, rfl, ?_, ?_⟩
        · (try conv => whnf)
          (repeat' (first | exact True.intro | exact fun _ h => h | refine inR64_of ?_ ?_ | apply And.intro | refine maxLen_ge ?_)) <;> (first | omega | decide | (dsimp only; omega) | (dsimp only [List.length_cons, List.length_nil]; omega) | (intro hg; rw [hg]; rfl) | (intro hg hh; rw [hg, hh]; rfl) | (intro hg; simp [-List.getD_eq_getElem?_getD, -Int.default_eq_zero] at hg; first | omega | (refine inR64_of ?_ ?_ <;> omega) | (constructor <;> omega)) | (simp [-List.getD_eq_getElem?_getD, -Int.default_eq_zero]; done))
        · by_cases e : k = 2
          · rw [e]; unfold isG; rw [hq]; rfl
          · exact hall k (by omega)
        · omega
        all_goals repeat' (first | exact True.intro | refine leF_cons rfl ?_ ?_ | refine leS_cons rfl ?_ ?_ | (show PLe _ _ _ _; conv => whnf) | (show SLe _ _ _ _; conv => whnf) | (show PLeL _ _ _ _; conv => whnf) | apply And.intro | rfl | exact Nat.le_refl _ | exact fun _ _ => rfl | exact rowEq0 _ _)
        all_goals first | (unfold pR nG; rw [hq]; rfl) | (unfold nG; rw [hq]; rfl) | skip
    · have hG : lineG w = (if fl0 = w.getD 3 default then (⟨nG w 0, nG w 1, nG w 2, 0⟩, true) else if fl1 = w.getD 3 default then (⟨nG w 0, nG w 1, nG w 2, 1⟩, true) else
          if fl2 = w.getD 3 default then (⟨nG w 0, nG w 1, nG w 2, 2⟩, true) else (pR w 3, false)) := by
        unfold lineG
        rw [if_neg (by omega), if_neg (by rw [hall 0 (by omega)]; decide), if_neg (by rw [hall 1 (by omega)]; decide), if_neg (by rw [hall 2 (by omega)]; decide)]
      conv => whnf
      refine ⟨trivial, fun hc => (by cases hc), fun hc => ?_⟩
      conv => whnf
      refine ⟨trivial, ?_⟩
      refine LSem.loop (n := 53) mix (α := Nat) (fun j => j ≤ 3 ∧ (0 < j → fl0 ≠ w.getD 3 default) ∧ (1 < j → fl1 ≠ w.getD 3 default) ∧ (2 < j → fl2 ≠ w.getD 3 default))
        (fun j => [(0, .sl τ 1 w.length (fl eStr w)), (2, .pt 32 0 0), (4, .pt 64 0 0), (38, .agg [.str fl0, .str fl1, .str fl2]), (39, .int .i64 j)])
        (fun j => [(32, .box [.int .i64 0, .int .i64 0, .int .i64 0, .int .i64 0]), (64, .box (eRd (pR w 3)))]) (fun j => 3 - j) 0 ?_ ?_ ?_
      · exact ⟨Nat.zero_le _, fun h => absurd h (Nat.lt_irrefl _), fun h => absurd h (by omega), fun h => absurd h (by omega)⟩
      · refine ⟨rfl, rfl, ?_, ?_⟩
        all_goals repeat' (first | exact True.intro | refine leF_cons rfl ?_ ?_ | refine leS_cons rfl ?_ ?_ | (show PLe _ _ _ _; conv => whnf) | (show SLe _ _ _ _; conv => whnf) | (show PLeL _ _ _ _; conv => whnf) | apply And.intro | rfl | exact Nat.le_refl _ | exact fun _ _ => rfl | exact rowEq0 _ _)
        all_goals skip
      · intro j hj
        obtain ⟨hj3, f0, f1, f2⟩ := hj
        have h0123 : j = 0 ∨ j = 1 ∨ j = 2 ∨ j = 3 := by omega
        rcases h0123 with rfl | rfl | rfl | rfl
        · conv => whnf
          refine ⟨trivial, fun hc => ?_, fun hc => (by cases hc)⟩
          conv => whnf
          refine ⟨?_, fun he => ?_, fun he => ?_⟩
          · (try conv => whnf)
            (repeat' (first | exact True.intro | exact fun _ h => h | refine inR64_of ?_ ?_ | apply And.intro | refine maxLen_ge ?_)) <;> (first | omega | decide | (dsimp only; omega) | (dsimp only [List.length_cons, List.length_nil]; omega) | (intro hg; rw [hg]; rfl) | (intro hg hh; rw [hg, hh]; rfl) | (intro hg; simp [-List.getD_eq_getElem?_getD, -Int.default_eq_zero] at hg; first | omega | (refine inR64_of ?_ ?_ <;> omega) | (constructor <;> omega)) | (simp [-List.getD_eq_getElem?_getD, -Int.default_eq_zero]; done))
          · have he' : fl0 = w.getD 3 default := by simpa using he
            rw [hG, if_pos he']
            conv => whnf
            refine ⟨?_, [], ?_⟩
            · (try conv => whnf)
              (repeat' (first | exact True.intro | exact fun _ h => h | refine inR64_of ?_ ?_ | apply And.intro | refine maxLen_ge ?_)) <;> (first | omega | decide | (dsimp only; omega) | (dsimp only [List.length_cons, List.length_nil]; omega) | (intro hg; rw [hg]; rfl) | (intro hg hh; rw [hg, hh]; rfl) | (intro hg; simp [-List.getD_eq_getElem?_getD, -Int.default_eq_zero] at hg; first | omega | (refine inR64_of ?_ ?_ <;> omega) | (constructor <;> omega)) | (simp [-List.getD_eq_getElem?_getD, -Int.default_eq_zero]; done))
            conv => whnf
            refine ⟨rfl, ?_, trivial, trivial⟩
            all_goals repeat' (first | exact True.intro | refine leF_cons rfl ?_ ?_ | refine leS_cons rfl ?_ ?_ | (show PLe _ _ _ _; conv => whnf) | (show SLe _ _ _ _; conv => whnf) | (show PLeL _ _ _ _; conv => whnf) | apply And.intro | rfl | exact Nat.le_refl _ | exact fun _ _ => rfl | exact rowEq0 _ _)
          · have he' : fl0 ≠ w.getD 3 default := by simpa using he
            conv => whnf
            refine ⟨?_, 1, ⟨by omega, fun h => he', fun h => absurd h (by omega), fun h => absurd h (by omega)⟩, ?_, rfl, rfl, ?_, ?_⟩
            · (try conv => whnf)
              (repeat' (first | exact True.intro | exact fun _ h => h | refine inR64_of ?_ ?_ | apply And.intro | refine maxLen_ge ?_)) <;> (first | omega | decide | (dsimp only; omega) | (dsimp only [List.length_cons, List.length_nil]; omega) | (intro hg; rw [hg]; rfl) | (intro hg hh; rw [hg, hh]; rfl) | (intro hg; simp [-List.getD_eq_getElem?_getD, -Int.default_eq_zero] at hg; first | omega | (refine inR64_of ?_ ?_ <;> omega) | (constructor <;> omega)) | (simp [-List.getD_eq_getElem?_getD, -Int.default_eq_zero]; done))
            · omega
            all_goals repeat' (first | exact True.intro | refine leF_cons rfl ?_ ?_ | refine leS_cons rfl ?_ ?_ | (show PLe _ _ _ _; conv => whnf) | (show SLe _ _ _ _; conv => whnf) | (show PLeL _ _ _ _; conv => whnf) | apply And.intro | rfl | exact Nat.le_refl _ | exact fun _ _ => rfl | exact rowEq0 _ _)
            all_goals skip
        · conv => whnf
          refine ⟨trivial, fun hc => ?_, fun hc => (by cases hc)⟩
          conv => whnf
          refine ⟨?_, fun he => ?_, fun he => ?_⟩
          · (try conv => whnf)
            (repeat' (first | exact True.intro | exact fun _ h => h | refine inR64_of ?_ ?_ | apply And.intro | refine maxLen_ge ?_)) <;> (first | omega | decide | (dsimp only; omega) | (dsimp only [List.length_cons, List.length_nil]; omega) | (intro hg; rw [hg]; rfl) | (intro hg hh; rw [hg, hh]; rfl) | (intro hg; simp [-List.getD_eq_getElem?_getD, -Int.default_eq_zero] at hg; first | omega | (refine inR64_of ?_ ?_ <;> omega) | (constructor <;> omega)) | (simp [-List.getD_eq_getElem?_getD, -Int.default_eq_zero]; done))
          · have he' : fl1 = w.getD 3 default := by simpa using he
            rw [hG, if_neg (f0 (by omega)), if_pos he']
            conv => whnf
            refine ⟨?_, [], ?_⟩
            · (try conv => whnf)
              (repeat' (first | exact True.intro | exact fun _ h => h | refine inR64_of ?_ ?_ | apply And.intro | refine maxLen_ge ?_)) <;> (first | omega | decide | (dsimp only; omega) | (dsimp only [List.length_cons, List.length_nil]; omega) | (intro hg; rw [hg]; rfl) | (intro hg hh; rw [hg, hh]; rfl) | (intro hg; simp [-List.getD_eq_getElem?_getD, -Int.default_eq_zero] at hg; first | omega | (refine inR64_of ?_ ?_ <;> omega) | (constructor <;> omega)) | (simp [-List.getD_eq_getElem?_getD, -Int.default_eq_zero]; done))
            conv => whnf
            refine ⟨rfl, ?_, trivial, trivial⟩
            all_goals repeat' (first | exact True.intro | refine leF_cons rfl ?_ ?_ | refine leS_cons rfl ?_ ?_ | (show PLe _ _ _ _; conv => whnf) | (show SLe _ _ _ _; conv => whnf) | (show PLeL _ _ _ _; conv => whnf) | apply And.intro | rfl | exact Nat.le_refl _ | exact fun _ _ => rfl | exact rowEq0 _ _)
          · have he' : fl1 ≠ w.getD 3 default := by simpa using he
            conv => whnf
            refine ⟨?_, 2, ⟨by omega, fun h => f0 (by omega), fun h => he', fun h => absurd h (by omega)⟩, ?_, rfl, rfl, ?_, ?_⟩
            · (try conv => whnf)
              (repeat' (first | exact True.intro | exact fun _ h => h | refine inR64_of ?_ ?_ | apply And.intro | refine maxLen_ge ?_)) <;> (first | omega | decide | (dsimp only; omega) | (dsimp only [List.length_cons, List.length_nil]; omega) | (intro hg; rw [hg]; rfl) | (intro hg hh; rw [hg, hh]; rfl) | (intro hg; simp [-List.getD_eq_getElem?_getD, -Int.default_eq_zero] at hg; first | omega | (refine inR64_of ?_ ?_ <;> omega) | (constructor <;> omega)) | (simp [-List.getD_eq_getElem?_getD, -Int.default_eq_zero]; done))
            · omega
            all_goals repeat' (first | exact True.intro | refine leF_cons rfl ?_ ?_ | refine leS_cons rfl ?_ ?_ | (show PLe _ _ _ _; conv => whnf) | (show SLe _ _ _ _; conv => whnf) | (show PLeL _ _ _ _; conv => whnf) | apply And.intro | rfl | exact Nat.le_refl _ | exact fun _ _ => rfl | exact rowEq0 _ _)
            all_goals skip
        · conv => whnf
          refine ⟨trivial, fun hc => ?_, fun hc => (by cases hc)⟩
          conv => whnf
          refine ⟨?_, fun he => ?_, fun he => ?_⟩
          · (try conv => whnf)
            (repeat' (first | exact True.intro | exact fun _ h => h | refine inR64_of ?_ ?_ | apply And.intro | refine maxLen_ge ?_)) <;> (first | omega | decide | (dsimp only; omega) | (dsimp only [List.length_cons, List.length_nil]; omega) | (intro hg; rw [hg]; rfl) | (intro hg hh; rw [hg, hh]; rfl) | (intro hg; simp [-List.getD_eq_getElem?_getD, -Int.default_eq_zero] at hg; first | omega | (refine inR64_of ?_ ?_ <;> omega) | (constructor <;> omega)) | (simp [-List.getD_eq_getElem?_getD, -Int.default_eq_zero]; done))
          · have he' : fl2 = w.getD 3 default := by simpa using he
            rw [hG, if_neg (f0 (by omega)), if_neg (f1 (by omega)), if_pos he']
            conv => whnf
            refine ⟨?_, [], ?_⟩
            · (try conv => whnf)
              (repeat' (first | exact True.intro | exact fun _ h => h | refine inR64_of ?_ ?_ | apply And.intro | refine maxLen_ge ?_)) <;> (first | omega | decide | (dsimp only; omega) | (dsimp only [List.length_cons, List.length_nil]; omega) | (intro hg; rw [hg]; rfl) | (intro hg hh; rw [hg, hh]; rfl) | (intro hg; simp [-List.getD_eq_getElem?_getD, -Int.default_eq_zero] at hg; first | omega | (refine inR64_of ?_ ?_ <;> omega) | (constructor <;> omega)) | (simp [-List.getD_eq_getElem?_getD, -Int.default_eq_zero]; done))
            conv => whnf
            refine ⟨rfl, ?_, trivial, trivial⟩
            all_goals repeat' (first | exact True.intro | refine leF_cons rfl ?_ ?_ | refine leS_cons rfl ?_ ?_ | (show PLe _ _ _ _; conv => whnf) | (show SLe _ _ _ _; conv => whnf) | (show PLeL _ _ _ _; conv => whnf) | apply And.intro | rfl | exact Nat.le_refl _ | exact fun _ _ => rfl | exact rowEq0 _ _)
          · have he' : fl2 ≠ w.getD 3 default := by simpa using he
            conv => whnf
            refine ⟨?_, 3, ⟨by omega, fun h => f0 (by omega), fun h => f1 (by omega), fun h => he'⟩, ?_, rfl, rfl, ?_, ?_⟩
            · (try conv => whnf)
              (repeat' (first | exact True.intro | exact fun _ h => h | refine inR64_of ?_ ?_ | apply And.intro | refine maxLen_ge ?_)) <;> (first | omega | decide | (dsimp only; omega) | (dsimp only [List.length_cons, List.length_nil]; omega) | (intro hg; rw [hg]; rfl) | (intro hg hh; rw [hg, hh]; rfl) | (intro hg; simp [-List.getD_eq_getElem?_getD, -Int.default_eq_zero] at hg; first | omega | (refine inR64_of ?_ ?_ <;> omega) | (constructor <;> omega)) | (simp [-List.getD_eq_getElem?_getD, -Int.default_eq_zero]; done))
            · omega
            all_goals repeat' (first | exact True.intro | refine leF_cons rfl ?_ ?_ | refine leS_cons rfl ?_ ?_ | (show PLe _ _ _ _; conv => whnf) | (show SLe _ _ _ _; conv => whnf) | (show PLeL _ _ _ _; conv => whnf) | apply And.intro | rfl | exact Nat.le_refl _ | exact fun _ _ => rfl | exact rowEq0 _ _)
            all_goals skip
        · rw [hG, if_neg (f0 (by omega)), if_neg (f1 (by omega)), if_neg (f2 (by omega))]
          conv => whnf
          refine ⟨trivial, fun hc => (by cases hc), fun hc => ?_⟩
          conv => whnf
          refine ⟨?_, [], ?_⟩
          · (try conv => whnf)
            (repeat' (first | exact True.intro | exact fun _ h => h | refine inR64_of ?_ ?_ | apply And.intro | refine maxLen_ge ?_)) <;> (first | omega | decide | (dsimp only; omega) | (dsimp only [List.length_cons, List.length_nil]; omega) | (intro hg; rw [hg]; rfl) | (intro hg hh; rw [hg, hh]; rfl) | (intro hg; simp [-List.getD_eq_getElem?_getD, -Int.default_eq_zero] at hg; first | omega | (refine inR64_of ?_ ?_ <;> omega) | (constructor <;> omega)) | (simp [-List.getD_eq_getElem?_getD, -Int.default_eq_zero]; done))
          conv => whnf
          refine ⟨rfl, ?_, trivial, trivial⟩
          all_goals repeat' (first | exact True.intro | refine leF_cons rfl ?_ ?_ | refine leS_cons rfl ?_ ?_ | (show PLe _ _ _ _; conv => whnf) | (show SLe _ _ _ _; conv => whnf) | (show PLeL _ _ _ _; conv => whnf) | apply And.intro | rfl | exact Nat.le_refl _ | exact fun _ _ => rfl | exact rowEq0 _ _)
end Pv
end Go.Proofs.YtgbknfbcjddnhaaDoor

/- LAW 06, THE WALKS: a line's words as a reading, second form. -/
set_option linter.unusedSimpArgs false
set_option linter.unusedVariables false
namespace Go.Proofs.YtgbknfbcjddnhaaDoor
namespace Pv
def c44L1 : C := (.seq (.reg [⟨(some 42), 672, none, .bi false .lss (.t 41) (.t 40)⟩])
  (.seq (.cond (.t 42) .skip (.exit 0))
  (.seq (.block 1 (.seq (.reg [⟨(some 43), 688, none, .mv (.t 41)⟩,
    ⟨(some 44), 704, none, .ia 1 (.t 39) (.t 41)⟩,
    ⟨(some 45), 720, none, .ld 1 false (.t 44)⟩,
    ⟨(some 11), 176, none, .mv (.t 43)⟩,
    ⟨(some 12), 192, none, .mv (.t 45)⟩])
  (.seq (.reg [⟨(some 46), 736, none, .mv (.t 12)⟩,
    ⟨(some 47), 752, none, .mv (.t 0)⟩,
    ⟨(some 48), 768, none, .ia 1 (.t 47) (.c (.int .i64 3))⟩,
    ⟨(some 49), 784, none, .ld 1 false (.t 48)⟩,
    ⟨(some 50), 800, none, .bi false .eql (.t 46) (.t 49)⟩])
  (.cond (.t 50) (.reg [⟨(some 51), 816, none, .mv (.t 11)⟩,
    ⟨(some 52), 832, none, .fa 3 (.t 4)⟩,
    ⟨none, 0, none, .st 1 (.t 52) (.t 51)⟩]) .skip))))
  (.reg [⟨(some 53), 848, none, .bi false .add (.t 41) (.c (.int .i64 1))⟩,
    ⟨(some 41), 656, none, .mv (.t 53)⟩]))))
def c44 : C := (.seq (.reg [⟨(some 2), 32, none, .al [(.int .i64 0), (.int .i64 0), (.int .i64 0), (.int .i64 0)]⟩,
    ⟨(some 3), 48, none, .mv (.c (.bool false))⟩])
  (.seq (.reg [⟨(some 13), 208, none, .bd [(.int .i64 0), (.int .i64 0), (.int .i64 0), (.int .i64 0)] [(3, 1, (.c (.int .i64 (-1))))]⟩,
    ⟨(some 4), 64, none, .al [(.int .i64 0), (.int .i64 0), (.int .i64 0), (.int .i64 0)]⟩,
    ⟨none, 0, none, .st 4 (.t 4) (.t 13)⟩])
  (.seq (.seq (.reg [⟨(some 14), 224, none, .mv (.t 0)⟩,
    ⟨(some 15), 240, none, .len (.t 14)⟩,
    ⟨(some 16), 256, none, .bi false .neq (.t 15) (.c (.int .i64 4))⟩])
  (.cond (.t 16) (.seq (.reg [⟨(some 17), 272, none, .ld 4 true (.t 4)⟩,
    ⟨none, 0, none, .st 4 (.t 2) (.t 17)⟩,
    ⟨(some 3), 48, none, .mv (.c (.bool false))⟩])
  .ret) .skip))
  (.seq (.reg [⟨(some 19), 304, none, .mv (.t 0)⟩,
    ⟨(some 20), 320, none, .ia 1 (.t 19) (.c (.int .i64 0))⟩,
    ⟨(some 21), 336, none, .ld 1 false (.t 20)⟩,
    ⟨(some 22), 352, none, .call (.c (.fn (.func 54) [] [])) [(.t 21)]⟩,
    ⟨(some 18), 288, none, .mv (.t 22)⟩,
    ⟨(some 23), 368, none, .ex (.t 18) 0⟩,
    ⟨(some 24), 384, none, .ex (.t 18) 1⟩,
    ⟨(some 5), 80, none, .mv (.t 23)⟩,
    ⟨(some 6), 96, none, .mv (.t 24)⟩])
  (.seq (.reg [⟨(some 26), 416, none, .mv (.t 0)⟩,
    ⟨(some 27), 432, none, .ia 1 (.t 26) (.c (.int .i64 1))⟩,
    ⟨(some 28), 448, none, .ld 1 false (.t 27)⟩,
    ⟨(some 29), 464, none, .call (.c (.fn (.func 54) [] [])) [(.t 28)]⟩,
    ⟨(some 25), 400, none, .mv (.t 29)⟩,
    ⟨(some 30), 480, none, .ex (.t 25) 0⟩,
    ⟨(some 31), 496, none, .ex (.t 25) 1⟩,
    ⟨(some 7), 112, none, .mv (.t 30)⟩,
    ⟨(some 8), 128, none, .mv (.t 31)⟩])
  (.seq (.reg [⟨(some 33), 528, none, .mv (.t 0)⟩,
    ⟨(some 34), 544, none, .ia 1 (.t 33) (.c (.int .i64 2))⟩,
    ⟨(some 35), 560, none, .ld 1 false (.t 34)⟩,
    ⟨(some 36), 576, none, .call (.c (.fn (.func 54) [] [])) [(.t 35)]⟩,
    ⟨(some 32), 512, none, .mv (.t 36)⟩,
    ⟨(some 37), 592, none, .ex (.t 32) 0⟩,
    ⟨(some 38), 608, none, .ex (.t 32) 1⟩,
    ⟨(some 9), 144, none, .mv (.t 37)⟩,
    ⟨(some 10), 160, none, .mv (.t 38)⟩])
  (.seq (.seq (.reg [⟨(some 39), 624, none, .call (.c (.fn (.func 38) [] [])) []⟩,
    ⟨(some 40), 640, none, .len (.t 39)⟩,
    ⟨(some 41), 656, none, .mv (.c (.int .i64 0))⟩])
  (.block 0 (.loop c44L1)))
  (.seq (.reg [⟨(some 54), 864, none, .mv (.t 5)⟩,
    ⟨(some 55), 880, none, .mv (.t 7)⟩,
    ⟨(some 56), 896, none, .mv (.t 9)⟩,
    ⟨(some 57), 912, none, .fa 0 (.t 4)⟩,
    ⟨none, 0, none, .st 1 (.t 57) (.t 54)⟩,
    ⟨(some 58), 928, none, .fa 1 (.t 4)⟩,
    ⟨none, 0, none, .st 1 (.t 58) (.t 55)⟩,
    ⟨(some 59), 944, none, .fa 2 (.t 4)⟩,
    ⟨none, 0, none, .st 1 (.t 59) (.t 56)⟩])
  (.seq (.drw [⟨(some 60), 960, none, .ld 4 true (.t 4)⟩,
    ⟨(some 61), 976, none, .mv (.t 6)⟩,
    ⟨(some 62), 992, none, .mv (.t 61)⟩,
    ⟨(some 63), 1008, (some (62, true)), .mv (.t 8)⟩,
    ⟨(some 64), 1024, none, .pick (.t 62) (.t 63) (.c (.bool false))⟩,
    ⟨(some 65), 1040, none, .mv (.t 64)⟩,
    ⟨(some 66), 1056, (some (65, true)), .mv (.t 10)⟩,
    ⟨(some 67), 1072, none, .pick (.t 65) (.t 66) (.c (.bool false))⟩,
    ⟨(some 68), 1088, none, .mv (.t 67)⟩,
    ⟨(some 69), 1104, (some (68, true)), .fa 3 (.t 4)⟩,
    ⟨(some 70), 1120, (some (68, true)), .ld 1 false (.t 69)⟩,
    ⟨(some 71), 1136, (some (68, true)), .bi false .geq (.t 70) (.c (.int .i64 0))⟩,
    ⟨(some 72), 1152, none, .pick (.t 68) (.t 71) (.c (.bool false))⟩,
    ⟨none, 0, none, .st 4 (.t 2) (.t 60)⟩,
    ⟨(some 3), 48, none, .mv (.t 72)⟩]
    [(0, 1, 60), (0, 2, 60), (0, 3, 60), (0, 4, 60), (0, 5, 60), (0, 6, 60), (0, 7, 60), (0, 8, 60), (0, 9, 60), (0, 10, 60), (0, 11, 60), (0, 12, 60), (9, 13, 69), (10, 13, 70), (11, 13, 71), (12, 13, 72)])
  .ret)))))))))
theorem fits44 : fits Tryd.prog false Tryd.f44 1 73 [(2, some (4, true)), (3, none)] = some c44.er := by kernel_rfl

/-- The number of a flag's word, after some words have been looked at. -/
def flR (s : List UInt8) : Nat → Int
  | 0 => -1
  | 1 => if fl0 = s then 0 else -1
  | 2 => if fl1 = s then 1 else if fl0 = s then 0 else -1
  | _ => if fl2 = s then 2 else if fl1 = s then 1 else if fl0 = s then 0 else -1
/-- What the second form of line gives. -/
def lineR (w : List (List UInt8)) : Rd × Bool := if w.length ≠ 4 then (⟨0, 0, 0, -1⟩, false) else
  (⟨nG w 0, nG w 1, nG w 2, flR (w.getD 3 default) 3⟩, bif (bif (bif isG w 0 then isG w 1 else false) then isG w 2 else false) then decide (0 ≤ flR (w.getD 3 default) 3) else false)

set_option maxRecDepth 100000 in
set_option maxHeartbeats 8000000 in
theorem call44 (τ : Nat) (w : List (List UInt8)) (hw : w.length ≤ 4611686018427387904) (hs : ∀ k, k < w.length → (w.getD k default).length ≤ 4611686018427387904) : PureCall Tryd.prog 44 [.sl τ 1 w.length (fl eStr w)] [] ⟨.tup [.agg (eRd (lineR w).1), .bool (lineR w).2], [], []⟩ := by
  refine pure_call mix Tryd.func44 fits44 rfl ?_
  conv => whnf
  refine ⟨?_, fun hc => ?_, fun hc => ?_⟩
  · (try conv => whnf)
    (repeat' (first | exact True.intro | exact fun _ h => h | refine inR64_of ?_ ?_ | apply And.intro | refine maxLen_ge ?_)) <;> (first | omega | decide | (dsimp only; omega) | (dsimp only [List.length_cons, List.length_nil]; omega) | (intro hg; rw [hg]; rfl) | (intro hg hh; rw [hg, hh]; rfl) | (intro hg; simp [-List.getD_eq_getElem?_getD, -Int.default_eq_zero] at hg; first | omega | (refine inR64_of ?_ ?_ <;> omega) | (constructor <;> omega)) | (simp [-List.getD_eq_getElem?_getD, -Int.default_eq_zero]; done))
  · simp only [bif_t, bif_f, decide_eq_true_eq, decide_eq_false_iff_not, Bool.not_eq_true', Bool.not_eq_false', Bool.and_eq_true, Bool.or_eq_true, Bool.and_eq_false_iff, Bool.or_eq_false_iff, beq_iff_eq, bne_iff_ne, beq_eq_false_iff_ne, bne_eq_false_iff_eq, reduceCtorEq, false_and, and_false, true_and, and_true, or_false, false_or, or_true, true_or, not_true_eq_false, not_false_eq_true, Int.toNat_zero] at hc
    rw [show lineR w = (⟨0, 0, 0, -1⟩, false) by unfold lineR; rw [if_pos (by omega)]]
    conv => whnf
    refine ⟨?_, [], ?_⟩
    · (try conv => whnf)
      (repeat' (first | exact True.intro | exact fun _ h => h | refine inR64_of ?_ ?_ | apply And.intro | refine maxLen_ge ?_)) <;> (first | omega | decide | (dsimp only; omega) | (dsimp only [List.length_cons, List.length_nil]; omega) | (intro hg; rw [hg]; rfl) | (intro hg hh; rw [hg, hh]; rfl) | (intro hg; simp [-List.getD_eq_getElem?_getD, -Int.default_eq_zero] at hg; first | omega | (refine inR64_of ?_ ?_ <;> omega) | (constructor <;> omega)) | (simp [-List.getD_eq_getElem?_getD, -Int.default_eq_zero]; done))
    conv => whnf
    refine ⟨rfl, ?_, trivial, trivial⟩
    all_goals repeat' (first | exact True.intro | refine leF_cons rfl ?_ ?_ | refine leS_cons rfl ?_ ?_ | (show PLe _ _ _ _; conv => whnf) | (show SLe _ _ _ _; conv => whnf) | (show PLeL _ _ _ _; conv => whnf) | apply And.intro | rfl | exact Nat.le_refl _ | exact fun _ _ => rfl | exact rowEq0 _ _)
  simp only [bif_t, bif_f, decide_eq_true_eq, decide_eq_false_iff_not, Bool.not_eq_true', Bool.not_eq_false', Bool.and_eq_true, Bool.or_eq_true, Bool.and_eq_false_iff, Bool.or_eq_false_iff, beq_iff_eq, bne_iff_ne, beq_eq_false_iff_ne, bne_eq_false_iff_eq, reduceCtorEq, false_and, and_false, true_and, and_true, or_false, false_or, or_true, true_or, not_true_eq_false, not_false_eq_true, Int.toNat_zero] at hc
  have hl : w.length = 4 := by omega
  rw [show lineR w = (⟨nG w 0, nG w 1, nG w 2, flR (w.getD 3 default) 3⟩, bif (bif (bif isG w 0 then isG w 1 else false) then isG w 2 else false) then decide (0 ≤ flR (w.getD 3 default) 3) else false) by unfold lineR; rw [if_neg (by omega)]]
  conv => whnf
  refine ⟨_, fun _ => call54 (w.getD 0 default) (hs 0 (by omega)), ?_⟩
  conv => whnf
  refine ⟨_, fun _ => call54 (w.getD 1 default) (hs 1 (by omega)), ?_⟩
  conv => whnf
  refine ⟨_, fun _ => call54 (w.getD 2 default) (hs 2 (by omega)), ?_⟩
  conv => whnf
  refine ⟨_, fun _ => call38, ?_⟩
  conv => whnf
  refine ⟨?_, ?_⟩
  · (try conv => whnf)
    (repeat' (first | exact True.intro | exact fun _ h => h | refine inR64_of ?_ ?_ | apply And.intro | refine maxLen_ge ?_)) <;> (first | omega | decide | (dsimp only; omega) | (dsimp only [List.length_cons, List.length_nil]; omega) | (intro hg; rw [hg]; rfl) | (intro hg hh; rw [hg, hh]; rfl) | (intro hg; simp [-List.getD_eq_getElem?_getD, -Int.default_eq_zero] at hg; first | omega | (refine inR64_of ?_ ?_ <;> omega) | (constructor <;> omega)) | (simp [-List.getD_eq_getElem?_getD, -Int.default_eq_zero]; done))
  refine LSem.loop (n := 73) mix (α := Nat) (fun j => j ≤ 3)
    (fun j => [(0, .sl τ 1 w.length (fl eStr w)), (2, .pt 32 0 0), (4, .pt 64 0 0), (5, .int .i64 (nG w 0)), (6, .bool (isG w 0)), (7, .int .i64 (nG w 1)), (8, .bool (isG w 1)), (9, .int .i64 (nG w 2)), (10, .bool (isG w 2)), (39, .os 624), (40, .int .i64 3), (41, .int .i64 j)])
    (fun j => [(32, .box [.int .i64 0, .int .i64 0, .int .i64 0, .int .i64 0]), (64, .box [.int .i64 0, .int .i64 0, .int .i64 0, .int .i64 (flR (w.getD 3 default) j)]), (624, .row 0 9 1 3 (fl eStr flagWords))]) (fun j => 3 - j) 0 ?_ ?_ ?_
  · exact Nat.zero_le _
  · refine ⟨rfl, rfl, ?_, ?_⟩
    all_goals repeat' (first | exact True.intro | refine leF_cons rfl ?_ ?_ | refine leS_cons rfl ?_ ?_ | (show PLe _ _ _ _; conv => whnf) | (show SLe _ _ _ _; conv => whnf) | (show PLeL _ _ _ _; conv => whnf) | apply And.intro | rfl | exact Nat.le_refl _ | exact fun _ _ => rfl | exact rowEq0 _ _)
    all_goals skip
  · intro j hj3
    have h0123 : j = 0 ∨ j = 1 ∨ j = 2 ∨ j = 3 := by omega
    rcases h0123 with rfl | rfl | rfl | rfl
    · conv => whnf
      refine ⟨trivial, fun hc => ?_, fun hc => (by cases hc)⟩
      conv => whnf
      refine ⟨?_, fun he => ?_, fun he => ?_⟩
      · (try conv => whnf)
        (repeat' (first | exact True.intro | exact fun _ h => h | refine inR64_of ?_ ?_ | apply And.intro | refine maxLen_ge ?_)) <;> (first | omega | decide | (dsimp only; omega) | (dsimp only [List.length_cons, List.length_nil]; omega) | (intro hg; rw [hg]; rfl) | (intro hg hh; rw [hg, hh]; rfl) | (intro hg; simp [-List.getD_eq_getElem?_getD, -Int.default_eq_zero] at hg; first | omega | (refine inR64_of ?_ ?_ <;> omega) | (constructor <;> omega)) | (simp [-List.getD_eq_getElem?_getD, -Int.default_eq_zero]; done))
      · have he' : fl0 = w.getD 3 default := eq_of_beq he
        conv => whnf
        refine ⟨?_, 1, ?_, ?_, rfl, rfl, ?_, ?_⟩
        · (try conv => whnf)
          (repeat' (first | exact True.intro | exact fun _ h => h | refine inR64_of ?_ ?_ | apply And.intro | refine maxLen_ge ?_)) <;> (first | omega | decide | (dsimp only; omega) | (dsimp only [List.length_cons, List.length_nil]; omega) | (intro hg; rw [hg]; rfl) | (intro hg hh; rw [hg, hh]; rfl) | (intro hg; simp [-List.getD_eq_getElem?_getD, -Int.default_eq_zero] at hg; first | omega | (refine inR64_of ?_ ?_ <;> omega) | (constructor <;> omega)) | (simp [-List.getD_eq_getElem?_getD, -Int.default_eq_zero]; done))
        · omega
        · omega
        all_goals repeat' (first | exact True.intro | refine leF_cons rfl ?_ ?_ | refine leS_cons rfl ?_ ?_ | (show PLe _ _ _ _; conv => whnf) | (show SLe _ _ _ _; conv => whnf) | (show PLeL _ _ _ _; conv => whnf) | apply And.intro | rfl | exact Nat.le_refl _ | exact fun _ _ => rfl | exact rowEq0 _ _)
        all_goals first | (show ((0 : Nat) : Int) = flR _ 1; unfold flR; rw [if_pos he']; rfl) | skip
      · have he' : ¬ fl0 = w.getD 3 default := ne_of_beq_false he
        conv => whnf
        refine ⟨?_, 1, ?_, ?_, rfl, rfl, ?_, ?_⟩
        · (try conv => whnf)
          (repeat' (first | exact True.intro | exact fun _ h => h | refine inR64_of ?_ ?_ | apply And.intro | refine maxLen_ge ?_)) <;> (first | omega | decide | (dsimp only; omega) | (dsimp only [List.length_cons, List.length_nil]; omega) | (intro hg; rw [hg]; rfl) | (intro hg hh; rw [hg, hh]; rfl) | (intro hg; simp [-List.getD_eq_getElem?_getD, -Int.default_eq_zero] at hg; first | omega | (refine inR64_of ?_ ?_ <;> omega) | (constructor <;> omega)) | (simp [-List.getD_eq_getElem?_getD, -Int.default_eq_zero]; done))
        · omega
        · omega
        all_goals repeat' (first | exact True.intro | refine leF_cons rfl ?_ ?_ | refine leS_cons rfl ?_ ?_ | (show PLe _ _ _ _; conv => whnf) | (show SLe _ _ _ _; conv => whnf) | (show PLeL _ _ _ _; conv => whnf) | apply And.intro | rfl | exact Nat.le_refl _ | exact fun _ _ => rfl | exact rowEq0 _ _)
        all_goals first | (show flR _ 0 = flR _ 1; rw [show flR (w.getD 3 default) 1 = if fl0 = w.getD 3 default then 0 else flR (w.getD 3 default) 0 from rfl, if_neg he']; done) | skip
    · conv => whnf
      refine ⟨trivial, fun hc => ?_, fun hc => (by cases hc)⟩
      conv => whnf
      refine ⟨?_, fun he => ?_, fun he => ?_⟩
      · (try conv => whnf)
        (repeat' (first | exact True.intro | exact fun _ h => h | refine inR64_of ?_ ?_ | apply And.intro | refine maxLen_ge ?_)) <;> (first | omega | decide | (dsimp only; omega) | (dsimp only [List.length_cons, List.length_nil]; omega) | (intro hg; rw [hg]; rfl) | (intro hg hh; rw [hg, hh]; rfl) | (intro hg; simp [-List.getD_eq_getElem?_getD, -Int.default_eq_zero] at hg; first | omega | (refine inR64_of ?_ ?_ <;> omega) | (constructor <;> omega)) | (simp [-List.getD_eq_getElem?_getD, -Int.default_eq_zero]; done))
      · have he' : fl1 = w.getD 3 default := eq_of_beq he
        conv => whnf
        refine ⟨?_, 2, ?_, ?_, rfl, rfl, ?_, ?_⟩
        · (try conv => whnf)
          (repeat' (first | exact True.intro | exact fun _ h => h | refine inR64_of ?_ ?_ | apply And.intro | refine maxLen_ge ?_)) <;> (first | omega | decide | (dsimp only; omega) | (dsimp only [List.length_cons, List.length_nil]; omega) | (intro hg; rw [hg]; rfl) | (intro hg hh; rw [hg, hh]; rfl) | (intro hg; simp [-List.getD_eq_getElem?_getD, -Int.default_eq_zero] at hg; first | omega | (refine inR64_of ?_ ?_ <;> omega) | (constructor <;> omega)) | (simp [-List.getD_eq_getElem?_getD, -Int.default_eq_zero]; done))
        · omega
        · omega
        all_goals repeat' (first | exact True.intro | refine leF_cons rfl ?_ ?_ | refine leS_cons rfl ?_ ?_ | (show PLe _ _ _ _; conv => whnf) | (show SLe _ _ _ _; conv => whnf) | (show PLeL _ _ _ _; conv => whnf) | apply And.intro | rfl | exact Nat.le_refl _ | exact fun _ _ => rfl | exact rowEq0 _ _)
        all_goals first | (show ((1 : Nat) : Int) = flR _ 2; unfold flR; rw [if_pos he']; rfl) | skip
      · have he' : ¬ fl1 = w.getD 3 default := ne_of_beq_false he
        conv => whnf
        refine ⟨?_, 2, ?_, ?_, rfl, rfl, ?_, ?_⟩
        · (try conv => whnf)
          (repeat' (first | exact True.intro | exact fun _ h => h | refine inR64_of ?_ ?_ | apply And.intro | refine maxLen_ge ?_)) <;> (first | omega | decide | (dsimp only; omega) | (dsimp only [List.length_cons, List.length_nil]; omega) | (intro hg; rw [hg]; rfl) | (intro hg hh; rw [hg, hh]; rfl) | (intro hg; simp [-List.getD_eq_getElem?_getD, -Int.default_eq_zero] at hg; first | omega | (refine inR64_of ?_ ?_ <;> omega) | (constructor <;> omega)) | (simp [-List.getD_eq_getElem?_getD, -Int.default_eq_zero]; done))
        · omega
        · omega
        all_goals repeat' (first | exact True.intro | refine leF_cons rfl ?_ ?_ | refine leS_cons rfl ?_ ?_ | (show PLe _ _ _ _; conv => whnf) | (show SLe _ _ _ _; conv => whnf) | (show PLeL _ _ _ _; conv => whnf) | apply And.intro | rfl | exact Nat.le_refl _ | exact fun _ _ => rfl | exact rowEq0 _ _)
        all_goals first | (show flR _ 1 = flR _ 2; rw [show flR (w.getD 3 default) 2 = if fl1 = w.getD 3 default then 1 else flR (w.getD 3 default) 1 from rfl, if_neg he']; done) | skip
    · conv => whnf
      refine ⟨trivial, fun hc => ?_, fun hc => (by cases hc)⟩
      conv => whnf
      refine ⟨?_, fun he => ?_, fun he => ?_⟩
      · (try conv => whnf)
        (repeat' (first | exact True.intro | exact fun _ h => h | refine inR64_of ?_ ?_ | apply And.intro | refine maxLen_ge ?_)) <;> (first | omega | decide | (dsimp only; omega) | (dsimp only [List.length_cons, List.length_nil]; omega) | (intro hg; rw [hg]; rfl) | (intro hg hh; rw [hg, hh]; rfl) | (intro hg; simp [-List.getD_eq_getElem?_getD, -Int.default_eq_zero] at hg; first | omega | (refine inR64_of ?_ ?_ <;> omega) | (constructor <;> omega)) | (simp [-List.getD_eq_getElem?_getD, -Int.default_eq_zero]; done))
      · have he' : fl2 = w.getD 3 default := eq_of_beq he
        conv => whnf
        refine ⟨?_, 3, ?_, ?_, rfl, rfl, ?_, ?_⟩
        · (try conv => whnf)
          (repeat' (first | exact True.intro | exact fun _ h => h | refine inR64_of ?_ ?_ | apply And.intro | refine maxLen_ge ?_)) <;> (first | omega | decide | (dsimp only; omega) | (dsimp only [List.length_cons, List.length_nil]; omega) | (intro hg; rw [hg]; rfl) | (intro hg hh; rw [hg, hh]; rfl) | (intro hg; simp [-List.getD_eq_getElem?_getD, -Int.default_eq_zero] at hg; first | omega | (refine inR64_of ?_ ?_ <;> omega) | (constructor <;> omega)) | (simp [-List.getD_eq_getElem?_getD, -Int.default_eq_zero]; done))
        · omega
        · omega
        all_goals repeat' (first | exact True.intro | refine leF_cons rfl ?_ ?_ | refine leS_cons rfl ?_ ?_ | (show PLe _ _ _ _; conv => whnf) | (show SLe _ _ _ _; conv => whnf) | (show PLeL _ _ _ _; conv => whnf) | apply And.intro | rfl | exact Nat.le_refl _ | exact fun _ _ => rfl | exact rowEq0 _ _)
        all_goals first | (show ((2 : Nat) : Int) = flR _ 3; unfold flR; rw [if_pos he']; rfl) | skip
      · have he' : ¬ fl2 = w.getD 3 default := ne_of_beq_false he
        conv => whnf
        refine ⟨?_, 3, ?_, ?_, rfl, rfl, ?_, ?_⟩
        · (try conv => whnf)
          (repeat' (first | exact True.intro | exact fun _ h => h | refine inR64_of ?_ ?_ | apply And.intro | refine maxLen_ge ?_)) <;> (first | omega | decide | (dsimp only; omega) | (dsimp only [List.length_cons, List.length_nil]; omega) | (intro hg; rw [hg]; rfl) | (intro hg hh; rw [hg, hh]; rfl) | (intro hg; simp [-List.getD_eq_getElem?_getD, -Int.default_eq_zero] at hg; first | omega | (refine inR64_of ?_ ?_ <;> omega) | (constructor <;> omega)) | (simp [-List.getD_eq_getElem?_getD, -Int.default_eq_zero]; done))
        · omega
        · omega
        all_goals repeat' (first | exact True.intro | refine leF_cons rfl ?_ ?_ | refine leS_cons rfl ?_ ?_ | (show PLe _ _ _ _; conv => whnf) | (show SLe _ _ _ _; conv => whnf) | (show PLeL _ _ _ _; conv => whnf) | apply And.intro | rfl | exact Nat.le_refl _ | exact fun _ _ => rfl | exact rowEq0 _ _)
        all_goals first | (show flR _ 2 = flR _ 3; rw [show flR (w.getD 3 default) 3 = if fl2 = w.getD 3 default then 2 else flR (w.getD 3 default) 2 from rfl, if_neg he']; done) | skip
    · conv => whnf
      refine ⟨trivial, fun hc => (by cases hc), fun hc => ?_⟩
      conv => whnf
      refine ⟨rfl, ?_⟩
      conv => whnf
      refine ⟨?_, [], ?_⟩
      · (try conv => whnf)
        (repeat' (first | exact True.intro | exact fun _ h => h | refine inR64_of ?_ ?_ | apply And.intro | refine maxLen_ge ?_)) <;> (first | omega | decide | (dsimp only; omega) | (dsimp only [List.length_cons, List.length_nil]; omega) | (intro hg; rw [hg]; rfl) | (intro hg hh; rw [hg, hh]; rfl) | (intro hg; simp [-List.getD_eq_getElem?_getD, -Int.default_eq_zero] at hg; first | omega | (refine inR64_of ?_ ?_ <;> omega) | (constructor <;> omega)) | (simp [-List.getD_eq_getElem?_getD, -Int.default_eq_zero]; done))
      conv => whnf
      refine ⟨rfl, ?_, trivial, trivial⟩
      all_goals repeat' (first | exact True.intro | refine leF_cons rfl ?_ ?_ | refine leS_cons rfl ?_ ?_ | (show PLe _ _ _ _; conv => whnf) | (show SLe _ _ _ _; conv => whnf) | (show PLeL _ _ _ _; conv => whnf) | apply And.intro | rfl | exact Nat.le_refl _ | exact fun _ _ => rfl | exact rowEq0 _ _)
end Pv
end Go.Proofs.YtgbknfbcjddnhaaDoor

/- LAW 06, THE WALKS: lines and words of a text, second form. -/
set_option linter.unusedSimpArgs false
set_option linter.unusedVariables false
namespace Go.Proofs.YtgbknfbcjddnhaaDoor
namespace Pv
def c42L1 : C := (.seq (.seq (.reg [⟨(some 6), 96, none, .mv (.t 5)⟩,
    ⟨(some 7), 112, none, .mv (.t 0)⟩,
    ⟨(some 8), 128, none, .lens (.t 7)⟩,
    ⟨(some 9), 144, none, .bi false .leq (.t 6) (.t 8)⟩])
  (.cond (.t 9) .skip (.exit 0)))
  (.seq (.block 1 (.seq (.reg [⟨(some 12), 192, none, .mv (.t 5)⟩,
    ⟨(some 13), 208, none, .mv (.t 0)⟩,
    ⟨(some 14), 224, none, .lens (.t 13)⟩,
    ⟨(some 15), 240, none, .bi false .eql (.t 12) (.t 14)⟩,
    ⟨(some 16), 256, none, .mv (.t 15)⟩,
    ⟨(some 17), 272, (some (16, false)), .mv (.t 0)⟩,
    ⟨(some 18), 288, (some (16, false)), .mv (.t 5)⟩,
    ⟨(some 19), 304, (some (16, false)), .ixs (.t 17) (.t 18)⟩,
    ⟨(some 20), 320, (some (16, false)), .bi false .eql (.t 19) (.c (.int .u8 10))⟩,
    ⟨(some 21), 336, none, .pick (.t 16) (.c (.bool true)) (.t 20)⟩])
  (.cond (.t 21) (.seq (.reg [⟨(some 22), 352, none, .mv (.t 3)⟩,
    ⟨(some 23), 368, none, .mv (.t 0)⟩,
    ⟨(some 24), 384, none, .mv (.t 4)⟩,
    ⟨(some 25), 400, none, .mv (.t 5)⟩,
    ⟨(some 26), 416, none, .slcs (.t 23) (some (.t 24)) (some (.t 25))⟩,
    ⟨(some 27), 432, none, .bs 9 1 [(.t 26)]⟩,
    ⟨(some 28), 448, none, .app 9 1 16 (.t 22) (.t 27)⟩,
    ⟨(some 3), 48, none, .mv (.t 28)⟩])
  (.reg [⟨(some 29), 464, none, .mv (.t 5)⟩,
    ⟨(some 30), 480, none, .bi false .add (.t 29) (.c (.int .i64 1))⟩,
    ⟨(some 4), 64, none, .mv (.t 30)⟩])) .skip)))
  (.reg [⟨(some 10), 160, none, .mv (.t 5)⟩,
    ⟨(some 11), 176, none, .bi false .add (.t 10) (.c (.int .i64 1))⟩,
    ⟨(some 5), 80, none, .mv (.t 11)⟩])))
def c42 : C := (.seq (.reg [⟨(some 2), 32, none, .mv (.c (.nil 1))⟩])
  (.seq (.reg [⟨(some 3), 48, none, .mv (.c (.nil 1))⟩])
  (.seq (.reg [⟨(some 4), 64, none, .mv (.c (.int .i64 0))⟩])
  (.seq (.seq (.reg [⟨(some 5), 80, none, .mv (.c (.int .i64 0))⟩])
  (.block 0 (.loop c42L1)))
  (.seq (.reg [⟨(some 31), 496, none, .mv (.t 3)⟩,
    ⟨(some 2), 32, none, .mv (.t 31)⟩])
  .ret)))))
theorem fits42 : fits Tryd.prog false Tryd.f42 1 32 [(2, none)] = some c42.er := by kernel_rfl
def c43L1 : C := (.seq (.seq (.reg [⟨(some 6), 96, none, .mv (.t 5)⟩,
    ⟨(some 7), 112, none, .mv (.t 0)⟩,
    ⟨(some 8), 128, none, .lens (.t 7)⟩,
    ⟨(some 9), 144, none, .bi false .leq (.t 6) (.t 8)⟩])
  (.cond (.t 9) .skip (.exit 0)))
  (.seq (.block 1 (.seq (.reg [⟨(some 12), 192, none, .mv (.t 5)⟩,
    ⟨(some 13), 208, none, .mv (.t 0)⟩,
    ⟨(some 14), 224, none, .lens (.t 13)⟩,
    ⟨(some 15), 240, none, .bi false .eql (.t 12) (.t 14)⟩,
    ⟨(some 16), 256, none, .mv (.t 15)⟩,
    ⟨(some 17), 272, (some (16, false)), .mv (.t 0)⟩,
    ⟨(some 18), 288, (some (16, false)), .mv (.t 5)⟩,
    ⟨(some 19), 304, (some (16, false)), .ixs (.t 17) (.t 18)⟩,
    ⟨(some 20), 320, (some (16, false)), .bi false .eql (.t 19) (.c (.int .u8 32))⟩,
    ⟨(some 21), 336, none, .pick (.t 16) (.c (.bool true)) (.t 20)⟩,
    ⟨(some 22), 352, none, .mv (.t 21)⟩,
    ⟨(some 23), 368, (some (22, false)), .mv (.t 0)⟩,
    ⟨(some 24), 384, (some (22, false)), .mv (.t 5)⟩,
    ⟨(some 25), 400, (some (22, false)), .ixs (.t 23) (.t 24)⟩,
    ⟨(some 26), 416, (some (22, false)), .bi false .eql (.t 25) (.c (.int .u8 10))⟩,
    ⟨(some 27), 432, none, .pick (.t 22) (.c (.bool true)) (.t 26)⟩])
  (.cond (.t 27) (.seq (.seq (.reg [⟨(some 28), 448, none, .mv (.t 5)⟩,
    ⟨(some 29), 464, none, .mv (.t 4)⟩,
    ⟨(some 30), 480, none, .bi false .gtr (.t 28) (.t 29)⟩])
  (.cond (.t 30) (.reg [⟨(some 31), 496, none, .mv (.t 3)⟩,
    ⟨(some 32), 512, none, .mv (.t 0)⟩,
    ⟨(some 33), 528, none, .mv (.t 4)⟩,
    ⟨(some 34), 544, none, .mv (.t 5)⟩,
    ⟨(some 35), 560, none, .slcs (.t 32) (some (.t 33)) (some (.t 34))⟩,
    ⟨(some 36), 576, none, .bs 9 1 [(.t 35)]⟩,
    ⟨(some 37), 592, none, .app 9 1 16 (.t 31) (.t 36)⟩,
    ⟨(some 3), 48, none, .mv (.t 37)⟩]) .skip))
  (.reg [⟨(some 38), 608, none, .mv (.t 5)⟩,
    ⟨(some 39), 624, none, .bi false .add (.t 38) (.c (.int .i64 1))⟩,
    ⟨(some 4), 64, none, .mv (.t 39)⟩])) .skip)))
  (.reg [⟨(some 10), 160, none, .mv (.t 5)⟩,
    ⟨(some 11), 176, none, .bi false .add (.t 10) (.c (.int .i64 1))⟩,
    ⟨(some 5), 80, none, .mv (.t 11)⟩])))
def c43 : C := (.seq (.reg [⟨(some 2), 32, none, .mv (.c (.nil 1))⟩])
  (.seq (.reg [⟨(some 3), 48, none, .mv (.c (.nil 1))⟩])
  (.seq (.reg [⟨(some 4), 64, none, .mv (.c (.int .i64 0))⟩])
  (.seq (.seq (.reg [⟨(some 5), 80, none, .mv (.c (.int .i64 0))⟩])
  (.block 0 (.loop c43L1)))
  (.seq (.reg [⟨(some 40), 640, none, .mv (.t 3)⟩,
    ⟨(some 2), 32, none, .mv (.t 40)⟩])
  .ret)))))
theorem fits43 : fits Tryd.prog false Tryd.f43 1 41 [(2, none)] = some c43.er := by kernel_rfl

def isNl (b : UInt8) : Bool := b == 10
def isBn (b : UInt8) : Bool := b == 32 || b == 10
theorem u8_eq {x : UInt8} {n : Nat} (hn : n < 256) : ((x.toNat : Int) == (n : Int)) = (x == UInt8.ofNat n) := by
  have h1 : (UInt8.ofNat n).toNat = n := by rw [UInt8.toNat_ofNat']; omega
  by_cases h : x = UInt8.ofNat n
  · subst h; rw [h1]; simp
  · have h2 : x.toNat ≠ n := fun e => h (UInt8.toNat_inj.1 (by rw [h1]; exact e))
    rw [beq_eq_false_iff_ne.2 h]
    simp only [beq_eq_false_iff_ne, ne_eq]; omega

section
variable {p : UInt8 → Bool} {s : List UInt8} {a i : Nat}
theorem seg_app (h : a ≤ i) (hi : i ≤ s.length) : s.drop a = (s.take i).drop a ++ s.drop i := by
  have e : s = s.take i ++ s.drop i := (List.take_append_drop i s).symm
  have : s.drop a = (s.take i ++ s.drop i).drop a := by rw [← e]
  rw [this, List.drop_append_of_le_length (by rw [List.length_take]; omega)]
theorem seg_no (hno : ∀ k, a ≤ k → k < i → p (s.getD k 0) = false) (hi : i ≤ s.length) : ∀ x ∈ (s.take i).drop a, p x = false := fun x hx => by
  obtain ⟨k, hk⟩ := List.getElem?_of_mem hx
  rw [List.getElem?_drop, List.getElem?_take] at hk
  split at hk
  · have := hno (a + k) (by omega) (by omega)
    simpa [List.getD, hk] using this
  · cases hk
theorem seg_sep (h : a ≤ i) (hi : i < s.length) (hno : ∀ k, a ≤ k → k < i → p (s.getD k 0) = false) (hp : p (s.getD i 0) = true) : splitP p (s.drop a) = (s.take i).drop a :: splitP p (s.drop (i + 1)) := by
  have hd : s.drop i = s.getD i 0 :: s.drop (i + 1) := by
    rw [List.drop_eq_getElem_cons hi]; simp [List.getD, hi]
  rw [seg_app h (Nat.le_of_lt hi), hd, splitP_sep p _ _ _ (seg_no hno (Nat.le_of_lt hi)) hp]
theorem seg_end (h : a ≤ s.length) (hno : ∀ k, a ≤ k → k < s.length → p (s.getD k 0) = false) : splitP p (s.drop a) = [(s.take s.length).drop a] := by
  have := seg_no hno (Nat.le_refl _)
  rw [List.take_length] at this ⊢
  exact splitP_none p _ this
end
theorem splitP_len (p : UInt8 → Bool) : ∀ s : List UInt8, (splitP p s).length ≤ s.length + 1 ∧ ∀ x ∈ splitP p s, x.length ≤ s.length
  | [] => by simp [splitP]
  | x :: xs => by
    obtain ⟨h1, h2⟩ := splitP_len p xs
    simp only [splitP]
    split
    · refine ⟨by simp only [List.length_cons]; omega, fun y hy => ?_⟩
      rcases List.mem_cons.1 hy with rfl | hy
      · simp
      · have := h2 y hy; simp only [List.length_cons]; omega
    · split
      · simp
      · rename_i h t he
        rw [he] at h1 h2
        refine ⟨by simp only [List.length_cons] at h1 ⊢; omega, fun y hy => ?_⟩
        rcases List.mem_cons.1 hy with rfl | hy
        · have := h2 h (List.mem_cons_self ..); simp only [List.length_cons]; omega
        · have := h2 y (List.mem_cons_of_mem _ hy); simp only [List.length_cons]; omega
theorem splitC_P (c : UInt8) : ∀ s : List UInt8, splitC c s = splitP (fun b => b == c) s
  | [] => rfl
  | x :: xs => by
    simp only [splitC, splitP, splitC_P c xs, beq_iff_eq] <;> (split <;> first | rfl | (cases splitP (fun b => b == c) xs <;> rfl))
theorem wordsB_mem {p : UInt8 → Bool} {s x : List UInt8} (h : x ∈ wordsB p s) : x.length ≤ s.length := (splitP_len p s).2 x (List.mem_filter.1 h).1
theorem wordsB_len (p : UInt8 → Bool) (s : List UInt8) : (wordsB p s).length ≤ s.length + 1 := Nat.le_trans (List.length_filter_le _ _) (splitP_len p s).1
theorem pP_mem (p : UInt8 → Bool) : ∀ (s : List UInt8), ∀ x ∈ splitP p s, ∀ b ∈ x, p b = false ∧ b ∈ s
  | [], x, hx, b, hb => by simp [splitP] at hx; subst hx; simp at hb
  | y :: ys, x, hx, b, hb => by
    simp only [splitP] at hx
    split at hx
    · rcases List.mem_cons.1 hx with rfl | hx
      · simp at hb
      · exact ⟨(pP_mem p ys x hx b hb).1, List.mem_cons_of_mem _ (pP_mem p ys x hx b hb).2⟩
    · rename_i hy
      split at hx
      · simp only [List.mem_singleton] at hx; subst hx
        simp only [List.mem_singleton] at hb; subst hb
        exact ⟨by simpa using hy, List.mem_cons_self ..⟩
      · rename_i h t he
        rcases List.mem_cons.1 hx with rfl | hx
        · rcases List.mem_cons.1 hb with rfl | hb
          · exact ⟨by simpa using hy, List.mem_cons_self ..⟩
          · have := pP_mem p ys h (by rw [he]; exact List.mem_cons_self ..) b hb
            exact ⟨this.1, List.mem_cons_of_mem _ this.2⟩
        · have := pP_mem p ys x (by rw [he]; exact List.mem_cons_of_mem _ hx) b hb
          exact ⟨this.1, List.mem_cons_of_mem _ this.2⟩
/-- Where no byte is a line feed, words are parted by blanks alone. -/
theorem splitP_congr {p q : UInt8 → Bool} : ∀ (s : List UInt8), (∀ b ∈ s, p b = q b) → splitP p s = splitP q s
  | [], _ => rfl
  | x :: xs, h => by
    simp only [splitP, h x (List.mem_cons_self ..), splitP_congr xs fun b hb => h b (List.mem_cons_of_mem _ hb)]

structure CutS where
  i : Nat
  a : Nat
  out : List (List UInt8)
/-- While a text is cut. 'F': which parts count. -/
structure CInv (p : UInt8 → Bool) (F : List (List UInt8) → List (List UInt8)) (s : List UInt8) (x : CutS) : Prop where
  le : x.a ≤ x.i ∧ x.i ≤ s.length + 1
  ln : x.out.length ≤ x.i
  no : ∀ k, x.a ≤ k → k < x.i → k < s.length → p (s.getD k 0) = false
  rest : x.i ≤ s.length → x.out ++ F (splitP p (s.drop x.a)) = F (splitP p s)
  fin : s.length < x.i → x.out = F (splitP p s)
theorem CInv.start (p : UInt8 → Bool) (F : List (List UInt8) → List (List UInt8)) (s : List UInt8) : CInv p F s ⟨0, 0, []⟩ :=
  ⟨⟨Nat.le_refl _, Nat.zero_le _⟩, Nat.le_refl _, fun k h1 h2 => absurd h2 (Nat.not_lt_zero _), fun _ => rfl, fun h => absurd h (Nat.not_lt_zero _)⟩
theorem CInv.skip {p : UInt8 → Bool} {F : List (List UInt8) → List (List UInt8)} {s : List UInt8} {x : CutS} (h : CInv p F s x) (hi : x.i < s.length) (hp : p (s.getD x.i 0) = false) : CInv p F s ⟨x.i + 1, x.a, x.out⟩ := by
  obtain ⟨⟨a1, a2⟩, b, c, d, e⟩ := h
  refine ⟨⟨by dsimp only; omega, by dsimp only; omega⟩, by dsimp only; omega, fun k h1 h2 h3 => ?_, fun _ => d (by omega), fun h => absurd h (by dsimp only; omega)⟩
  dsimp only at h1 h2
  by_cases hk : k = x.i
  · rw [hk]; exact hp
  · exact c k h1 (by omega) h3
theorem CInv.cut {p : UInt8 → Bool} {F : List (List UInt8) → List (List UInt8)} {s : List UInt8} {x : CutS} {out' : List (List UInt8)} (h : CInv p F s x) (hi : x.i ≤ s.length) (hp : x.i = s.length ∨ p (s.getD x.i 0) = true)
    (ho : ∀ L, x.out ++ F ((s.take x.i).drop x.a :: L) = out' ++ F L) (hF : F [] = []) (hl : out'.length ≤ x.out.length + 1) : CInv p F s ⟨x.i + 1, x.i + 1, out'⟩ := by
  obtain ⟨⟨a1, a2⟩, b, c, d, e⟩ := h
  refine ⟨⟨Nat.le_refl _, by dsimp only; omega⟩, by dsimp only; omega, fun k h1 h2 h3 => by dsimp only at h1 h2; omega, fun h => ?_, fun h => ?_⟩
  · dsimp only at h ⊢
    have hlt : x.i < s.length := by omega
    rw [← d (by omega), seg_sep a1 hlt (fun k h1 h2 => c k h1 h2 (by omega)) (hp.resolve_left (by omega)), ho]
  · dsimp only at h ⊢
    have hE : x.i = s.length := by omega
    have h2 := d (by omega)
    rw [seg_end (by omega) (fun k h1 h3 => c k h1 (by omega) h3), ← hE, ho, hF, List.append_nil] at h2
    exact h2

set_option maxRecDepth 100000 in
set_option maxHeartbeats 8000000 in
theorem call42 (s : List UInt8) (hs : s.length ≤ 65536) : PureCall Tryd.prog 42 [.str s] [] ⟨.os 1000000000, [], [.row 0 9 1 (splitP isNl s).length (fl eStr (splitP isNl s))]⟩ := by
  refine pure_call mix Tryd.func42 fits42 rfl ?_
  conv => whnf
  refine ⟨trivial, ?_⟩
  refine LSem.adopt 3 1000000 9 1 1 rfl rfl ?_
  refine LSem.loop (n := 32) mix (α := CutS) (CInv isNl id s)
    (fun x => [(0, .str s), (3, .os 1000000), (4, .int .i64 x.a), (5, .int .i64 x.i)])
    (fun x => [(1000000, .row 0 9 1 x.out.length (fl eStr x.out))]) (fun x => s.length + 1 - x.i) ⟨0, 0, []⟩ ?_ ?_ ?_
  · exact .start _ _ _
  · refine ⟨rfl, rfl, ?_, ?_⟩
    all_goals repeat' (first | exact True.intro | refine leF_cons rfl ?_ ?_ | refine leS_cons rfl ?_ ?_ | (show PLe _ _ _ _; conv => whnf) | (show SLe _ _ _ _; conv => whnf) | (show PLeL _ _ _ _; conv => whnf) | apply And.intro | rfl | exact Nat.le_refl _ | exact fun _ _ => rfl | exact rowEq0 _ _)
    all_goals skip
  · intro x hx
    obtain ⟨i, a, out⟩ := x
    have hle : a ≤ i ∧ i ≤ s.length + 1 := hx.le
    have hln : out.length ≤ i := hx.ln
    have hj : ((i : Int)).toNat = i := by omega
    have hja : ((a : Int)).toNat = a := by omega
    conv => whnf
    refine ⟨trivial, fun hc => ?_, fun hc => ?_⟩
    · replace hc := of_decide_eq_true hc
      have hlt : i ≤ s.length := by
        have h : (i : Int) ≤ s.length := hc
        omega
      conv => whnf
      dsimp only
      rw [hj, show (((s.getD i 0).toNat : Int) == 10) = isNl (s.getD i 0) from u8_eq (n := 10) (by decide)]
      refine ⟨?_, fun hc2 => ?_, fun hc2 => ?_⟩
      · (try conv => whnf)
        (repeat' (first | exact True.intro | exact fun _ h => h | refine inR64_of ?_ ?_ | apply And.intro | refine maxLen_ge ?_)) <;> (first | omega | decide | (dsimp only; omega) | (dsimp only [List.length_cons, List.length_nil]; omega) | (intro hg; rw [hg]; rfl) | (intro hg hh; rw [hg, hh]; rfl) | (intro hg; simp [-List.getD_eq_getElem?_getD, -Int.default_eq_zero] at hg; first | omega | (refine inR64_of ?_ ?_ <;> omega) | (constructor <;> omega)) | (simp [-List.getD_eq_getElem?_getD, -Int.default_eq_zero]; done))
      · have hp : i = s.length ∨ isNl (s.getD i 0) = true := by
          simp only [bif_t, bif_f, decide_eq_true_eq, decide_eq_false_iff_not, Bool.not_eq_true', Bool.not_eq_false', Bool.and_eq_true, Bool.or_eq_true, Bool.and_eq_false_iff, Bool.or_eq_false_iff, beq_iff_eq, bne_iff_ne, beq_eq_false_iff_ne, bne_eq_false_iff_eq, reduceCtorEq, false_and, and_false, true_and, and_true, or_false, false_or, or_true, true_or, not_true_eq_false, not_false_eq_true, Int.toNat_zero] at hc2
          rcases hc2 with h | h
          · exact .inl (by omega)
          · exact .inr h.2
        have hcut := hx.cut (out' := out ++ [(s.take i).drop a]) hlt hp (fun L => by simp) rfl (by simp)
        have q := fl_push eStr out ((s.take i).drop a)
        have hxl : (out ++ [(s.take i).drop a]).length = out.length + 1 := by simp
        conv => whnf
        dsimp only
        rw [hja, hj]
        refine ⟨?_, ⟨i + 1, i + 1, out ++ [(s.take i).drop a]⟩, hcut, ?_, rfl, rfl, ?_, ?_⟩
        · (try conv => whnf)
          (repeat' (first | exact True.intro | exact fun _ h => h | refine inR64_of ?_ ?_ | apply And.intro | refine maxLen_ge ?_)) <;> (first | omega | decide | (dsimp only; omega) | (dsimp only [List.length_cons, List.length_nil]; omega) | (intro hg; rw [hg]; rfl) | (intro hg hh; rw [hg, hh]; rfl) | (intro hg; simp [-List.getD_eq_getElem?_getD, -Int.default_eq_zero] at hg; first | omega | (refine inR64_of ?_ ?_ <;> omega) | (constructor <;> omega)) | (simp [-List.getD_eq_getElem?_getD, -Int.default_eq_zero]; done))
        · dsimp only; omega
        all_goals repeat' (first | exact True.intro | refine leF_cons rfl ?_ ?_ | refine leS_cons rfl ?_ ?_ | (show PLe _ _ _ _; conv => whnf) | (show SLe _ _ _ _; conv => whnf) | (show PLeL _ _ _ _; conv => whnf) | apply And.intro | rfl | exact Nat.le_refl _ | exact fun _ _ => rfl | exact rowEq0 _ _)
        all_goals first | exact q | (dsimp only; rw [hxl]; rfl) | (dsimp only; rw [hxl]) | (dsimp only; omega) | skip
      · have hp : i ≠ s.length ∧ isNl (s.getD i 0) = false := by
          simp only [bif_t, bif_f, decide_eq_true_eq, decide_eq_false_iff_not, Bool.not_eq_true', Bool.not_eq_false', Bool.and_eq_true, Bool.or_eq_true, Bool.and_eq_false_iff, Bool.or_eq_false_iff, beq_iff_eq, bne_iff_ne, beq_eq_false_iff_ne, bne_eq_false_iff_eq, reduceCtorEq, false_and, and_false, true_and, and_true, or_false, false_or, or_true, true_or, not_true_eq_false, not_false_eq_true, Int.toNat_zero] at hc2
          exact ⟨by omega, hc2.2⟩
        have hsk := hx.skip (by dsimp only; omega) hp.2
        conv => whnf
        refine ⟨?_, ⟨i + 1, a, out⟩, hsk, ?_, rfl, rfl, ?_, ?_⟩
        · (try conv => whnf)
          (repeat' (first | exact True.intro | exact fun _ h => h | refine inR64_of ?_ ?_ | apply And.intro | refine maxLen_ge ?_)) <;> (first | omega | decide | (dsimp only; omega) | (dsimp only [List.length_cons, List.length_nil]; omega) | (intro hg; rw [hg]; rfl) | (intro hg hh; rw [hg, hh]; rfl) | (intro hg; simp [-List.getD_eq_getElem?_getD, -Int.default_eq_zero] at hg; first | omega | (refine inR64_of ?_ ?_ <;> omega) | (constructor <;> omega)) | (simp [-List.getD_eq_getElem?_getD, -Int.default_eq_zero]; done))
        · dsimp only; omega
        all_goals repeat' (first | exact True.intro | refine leF_cons rfl ?_ ?_ | refine leS_cons rfl ?_ ?_ | (show PLe _ _ _ _; conv => whnf) | (show SLe _ _ _ _; conv => whnf) | (show PLeL _ _ _ _; conv => whnf) | apply And.intro | rfl | exact Nat.le_refl _ | exact fun _ _ => rfl | exact rowEq0 _ _)
        all_goals first | (dsimp only; omega) | skip
    · replace hc := of_decide_eq_false hc
      have hk : s.length < i := by
        have h : ¬ (i : Int) ≤ s.length := hc
        omega
      have hf : out = splitP isNl s := hx.fin hk
      rw [← hf]
      conv => whnf
      refine ⟨?_, [1000000], ?_⟩
      · (try conv => whnf)
        (repeat' (first | exact True.intro | exact fun _ h => h | refine inR64_of ?_ ?_ | apply And.intro | refine maxLen_ge ?_)) <;> (first | omega | decide | (dsimp only; omega) | (dsimp only [List.length_cons, List.length_nil]; omega) | (intro hg; rw [hg]; rfl) | (intro hg hh; rw [hg, hh]; rfl) | (intro hg; simp [-List.getD_eq_getElem?_getD, -Int.default_eq_zero] at hg; first | omega | (refine inR64_of ?_ ?_ <;> omega) | (constructor <;> omega)) | (simp [-List.getD_eq_getElem?_getD, -Int.default_eq_zero]; done))
      conv => whnf
      refine ⟨rfl, ?_, trivial, ?_⟩
      all_goals repeat' (first | exact True.intro | refine leF_cons rfl ?_ ?_ | refine leS_cons rfl ?_ ?_ | (show PLe _ _ _ _; conv => whnf) | (show SLe _ _ _ _; conv => whnf) | (show PLeL _ _ _ _; conv => whnf) | apply And.intro | rfl | exact Nat.le_refl _ | exact fun _ _ => rfl | exact rowEq0 _ _)
      all_goals skip
def neF (L : List (List UInt8)) : List (List UInt8) := L.filter fun x => !x.isEmpty
set_option maxRecDepth 100000 in
set_option maxHeartbeats 8000000 in
theorem call43 (s : List UInt8) (hs : s.length ≤ 65536) : PureCall Tryd.prog 43 [.str s] [] ⟨.os 1000000000, [], [.row 0 9 1 (wordsB isBn s).length (fl eStr (wordsB isBn s))]⟩ := by
  refine pure_call mix Tryd.func43 fits43 rfl ?_
  conv => whnf
  refine ⟨trivial, ?_⟩
  refine LSem.adopt 3 1000000 9 1 1 rfl rfl ?_
  refine LSem.loop (n := 41) mix (α := CutS) (CInv isBn neF s)
    (fun x => [(0, .str s), (3, .os 1000000), (4, .int .i64 x.a), (5, .int .i64 x.i)])
    (fun x => [(1000000, .row 0 9 1 x.out.length (fl eStr x.out))]) (fun x => s.length + 1 - x.i) ⟨0, 0, []⟩ ?_ ?_ ?_
  · exact .start _ _ _
  · refine ⟨rfl, rfl, ?_, ?_⟩
    all_goals repeat' (first | exact True.intro | refine leF_cons rfl ?_ ?_ | refine leS_cons rfl ?_ ?_ | (show PLe _ _ _ _; conv => whnf) | (show SLe _ _ _ _; conv => whnf) | (show PLeL _ _ _ _; conv => whnf) | apply And.intro | rfl | exact Nat.le_refl _ | exact fun _ _ => rfl | exact rowEq0 _ _)
    all_goals skip
  · intro x hx
    obtain ⟨i, a, out⟩ := x
    have hle : a ≤ i ∧ i ≤ s.length + 1 := hx.le
    have hln : out.length ≤ i := hx.ln
    have hj : ((i : Int)).toNat = i := by omega
    have hja : ((a : Int)).toNat = a := by omega
    conv => whnf
    refine ⟨trivial, fun hc => ?_, fun hc => ?_⟩
    · replace hc := of_decide_eq_true hc
      have hlt : i ≤ s.length := by
        have h : (i : Int) ≤ s.length := hc
        omega
      conv => whnf
      dsimp only
      rw [hj, show (((s.getD i 0).toNat : Int) == 10) = (s.getD i 0 == 10) from u8_eq (n := 10) (by decide), show (((s.getD i 0).toNat : Int) == 32) = (s.getD i 0 == 32) from u8_eq (n := 32) (by decide)]
      refine ⟨?_, fun hc2 => ?_, fun hc2 => ?_⟩
      · (try conv => whnf)
        have hlt2 : ((i : Int) == (s.length : Int)) = false → i < s.length := fun h => by simp at h; omega
        generalize ((i : Int) == (s.length : Int)) = B at hlt2 ⊢
        cases B
        · have := hlt2 rfl
          cases hq2 : (s.getD i 0 == 32) <;> simp [this]
        · simp
      · have hp : i = s.length ∨ isBn (s.getD i 0) = true := by
          by_cases he : i = s.length
          · exact .inl he
          · right
            have h1 : ((i : Int) == (s.length : Int)) = false := by simp; omega
            rw [h1] at hc2
            unfold isBn
            cases hq : (s.getD i 0 == 32) <;> cases hq2 : (s.getD i 0 == 10) <;> simp_all
        have hpl : ((s.take i).drop a).length = i - a := by rw [List.length_drop, List.length_take]; omega
        conv => whnf
        refine ⟨?_, fun hgt => ?_, fun hgt => ?_⟩
        · (try conv => whnf)
          (repeat' (first | exact True.intro | exact fun _ h => h | refine inR64_of ?_ ?_ | apply And.intro | refine maxLen_ge ?_)) <;> (first | omega | decide | (dsimp only; omega) | (dsimp only [List.length_cons, List.length_nil]; omega) | (intro hg; rw [hg]; rfl) | (intro hg hh; rw [hg, hh]; rfl) | (intro hg; simp [-List.getD_eq_getElem?_getD, -Int.default_eq_zero] at hg; first | omega | (refine inR64_of ?_ ?_ <;> omega) | (constructor <;> omega)) | (simp [-List.getD_eq_getElem?_getD, -Int.default_eq_zero]; done))
        · replace hgt := of_decide_eq_true hgt
          have hgt2 : a < i := by
            have h : (a : Int) < i := hgt
            omega
          have hne : ((s.take i).drop a).isEmpty = false := by
            cases hE : (s.take i).drop a with
            | nil => rw [hE] at hpl; simp at hpl; omega
            | cons _ _ => rfl
          have hcut := hx.cut (out' := out ++ [(s.take i).drop a]) hlt hp (fun L => by
            show out ++ List.filter _ _ = _
            rw [List.filter_cons_of_pos (by simp [hne])]; simp [neF]) rfl (by simp)
          have q := fl_push eStr out ((s.take i).drop a)
          have hxl : (out ++ [(s.take i).drop a]).length = out.length + 1 := by simp
          conv => whnf
          dsimp only
          rw [hja, hj]
          refine ⟨?_, ⟨i + 1, i + 1, out ++ [(s.take i).drop a]⟩, hcut, ?_, rfl, rfl, ?_, ?_⟩
          · (try conv => whnf)
            (repeat' (first | exact True.intro | exact fun _ h => h | refine inR64_of ?_ ?_ | apply And.intro | refine maxLen_ge ?_)) <;> (first | omega | decide | (dsimp only; omega) | (dsimp only [List.length_cons, List.length_nil]; omega) | (intro hg; rw [hg]; rfl) | (intro hg hh; rw [hg, hh]; rfl) | (intro hg; simp [-List.getD_eq_getElem?_getD, -Int.default_eq_zero] at hg; first | omega | (refine inR64_of ?_ ?_ <;> omega) | (constructor <;> omega)) | (simp [-List.getD_eq_getElem?_getD, -Int.default_eq_zero]; done))
          · dsimp only; omega
          all_goals repeat' (first | exact True.intro | refine leF_cons rfl ?_ ?_ | refine leS_cons rfl ?_ ?_ | (show PLe _ _ _ _; conv => whnf) | (show SLe _ _ _ _; conv => whnf) | (show PLeL _ _ _ _; conv => whnf) | apply And.intro | rfl | exact Nat.le_refl _ | exact fun _ _ => rfl | exact rowEq0 _ _)
          all_goals first | exact q | (dsimp only; rw [hxl]; rfl) | (dsimp only; rw [hxl]) | (dsimp only; omega) | skip
        · replace hgt := of_decide_eq_false hgt
          have hgt2 : a = i := by
            have h : ¬ (a : Int) < i := hgt
            omega
          have hE : (s.take i).drop a = [] := List.length_eq_zero_iff.1 (by omega)
          have hcut := hx.cut (out' := out) hlt hp (fun L => by
            rw [hE]
            show out ++ List.filter _ _ = _
            rw [List.filter_cons_of_neg (by simp)]; rfl) rfl (by simp)
          conv => whnf
          refine ⟨?_, ⟨i + 1, i + 1, out⟩, hcut, ?_, rfl, rfl, ?_, ?_⟩
          · (try conv => whnf)
            (repeat' (first | exact True.intro | exact fun _ h => h | refine inR64_of ?_ ?_ | apply And.intro | refine maxLen_ge ?_)) <;> (first | omega | decide | (dsimp only; omega) | (dsimp only [List.length_cons, List.length_nil]; omega) | (intro hg; rw [hg]; rfl) | (intro hg hh; rw [hg, hh]; rfl) | (intro hg; simp [-List.getD_eq_getElem?_getD, -Int.default_eq_zero] at hg; first | omega | (refine inR64_of ?_ ?_ <;> omega) | (constructor <;> omega)) | (simp [-List.getD_eq_getElem?_getD, -Int.default_eq_zero]; done))
          · dsimp only; omega
          all_goals repeat' (first | exact True.intro | refine leF_cons rfl ?_ ?_ | refine leS_cons rfl ?_ ?_ | (show PLe _ _ _ _; conv => whnf) | (show SLe _ _ _ _; conv => whnf) | (show PLeL _ _ _ _; conv => whnf) | apply And.intro | rfl | exact Nat.le_refl _ | exact fun _ _ => rfl | exact rowEq0 _ _)
          all_goals first | (dsimp only; omega) | skip
      · have hp : i ≠ s.length ∧ isBn (s.getD i 0) = false := by
          by_cases he : i = s.length
          · have h1 : ((i : Int) == (s.length : Int)) = true := by simp; omega
            rw [h1] at hc2; cases hc2
          · refine ⟨he, ?_⟩
            have h1 : ((i : Int) == (s.length : Int)) = false := by simp; omega
            rw [h1] at hc2
            unfold isBn
            cases hq : (s.getD i 0 == 32) <;> cases hq2 : (s.getD i 0 == 10) <;> simp_all
        have hsk := hx.skip (by dsimp only; omega) hp.2
        conv => whnf
        refine ⟨?_, ⟨i + 1, a, out⟩, hsk, ?_, rfl, rfl, ?_, ?_⟩
        · (try conv => whnf)
          (repeat' (first | exact True.intro | exact fun _ h => h | refine inR64_of ?_ ?_ | apply And.intro | refine maxLen_ge ?_)) <;> (first | omega | decide | (dsimp only; omega) | (dsimp only [List.length_cons, List.length_nil]; omega) | (intro hg; rw [hg]; rfl) | (intro hg hh; rw [hg, hh]; rfl) | (intro hg; simp [-List.getD_eq_getElem?_getD, -Int.default_eq_zero] at hg; first | omega | (refine inR64_of ?_ ?_ <;> omega) | (constructor <;> omega)) | (simp [-List.getD_eq_getElem?_getD, -Int.default_eq_zero]; done))
        · dsimp only; omega
        all_goals repeat' (first | exact True.intro | refine leF_cons rfl ?_ ?_ | refine leS_cons rfl ?_ ?_ | (show PLe _ _ _ _; conv => whnf) | (show SLe _ _ _ _; conv => whnf) | (show PLeL _ _ _ _; conv => whnf) | apply And.intro | rfl | exact Nat.le_refl _ | exact fun _ _ => rfl | exact rowEq0 _ _)
        all_goals first | (dsimp only; omega) | skip
    · replace hc := of_decide_eq_false hc
      have hk : s.length < i := by
        have h : ¬ (i : Int) ≤ s.length := hc
        omega
      have hf : out = wordsB isBn s := hx.fin hk
      rw [← hf]
      conv => whnf
      refine ⟨?_, [1000000], ?_⟩
      · (try conv => whnf)
        (repeat' (first | exact True.intro | exact fun _ h => h | refine inR64_of ?_ ?_ | apply And.intro | refine maxLen_ge ?_)) <;> (first | omega | decide | (dsimp only; omega) | (dsimp only [List.length_cons, List.length_nil]; omega) | (intro hg; rw [hg]; rfl) | (intro hg hh; rw [hg, hh]; rfl) | (intro hg; simp [-List.getD_eq_getElem?_getD, -Int.default_eq_zero] at hg; first | omega | (refine inR64_of ?_ ?_ <;> omega) | (constructor <;> omega)) | (simp [-List.getD_eq_getElem?_getD, -Int.default_eq_zero]; done))
      conv => whnf
      refine ⟨rfl, ?_, trivial, ?_⟩
      all_goals repeat' (first | exact True.intro | refine leF_cons rfl ?_ ?_ | refine leS_cons rfl ?_ ?_ | (show PLe _ _ _ _; conv => whnf) | (show SLe _ _ _ _; conv => whnf) | (show PLeL _ _ _ _; conv => whnf) | apply And.intro | rfl | exact Nat.le_refl _ | exact fun _ _ => rfl | exact rowEq0 _ _)
      all_goals skip
end Pv
end Go.Proofs.YtgbknfbcjddnhaaDoor

set_option linter.unusedSimpArgs false
set_option linter.unusedVariables false
namespace Go.Proofs.YtgbknfbcjddnhaaDoor
namespace Pv
def c40L1 : C := (.seq (.reg [⟨(some 13), 208, none, .bi false .lss (.t 12) (.t 11)⟩])
  (.seq (.cond (.t 13) .skip (.exit 0))
  (.seq (.block 1 (.seq (.reg [⟨(some 14), 224, none, .ia 1 (.t 10) (.t 12)⟩,
    ⟨(some 15), 240, none, .ld 1 false (.t 14)⟩,
    ⟨(some 7), 112, none, .mv (.t 15)⟩])
  (.seq (.reg [⟨(some 16), 256, none, .mv (.t 7)⟩,
    ⟨(some 17), 272, none, .call (.c (.fn (.func 51) [] [])) [(.t 16), (.c (.fn (.func 52) [] []))]⟩,
    ⟨(some 8), 128, none, .mv (.t 17)⟩])
  (.seq (.seq (.reg [⟨(some 18), 288, none, .mv (.t 8)⟩,
    ⟨(some 19), 304, none, .len (.t 18)⟩,
    ⟨(some 20), 320, none, .bi false .gtr (.t 19) (.c (.int .i64 0))⟩])
  (.cond (.t 20) (.reg [⟨(some 21), 336, none, .mv (.t 5)⟩,
    ⟨(some 22), 352, none, .bi false .add (.t 21) (.c (.int .i64 1))⟩,
    ⟨(some 5), 80, none, .mv (.t 22)⟩]) .skip))
  (.reg [⟨(some 23), 368, none, .mv (.t 4)⟩,
    ⟨(some 24), 384, none, .mv (.t 8)⟩,
    ⟨(some 25), 400, none, .bs 49 1 [(.t 24)]⟩,
    ⟨(some 26), 416, none, .app 49 1 24 (.t 23) (.t 25)⟩,
    ⟨(some 4), 64, none, .mv (.t 26)⟩])))))
  (.reg [⟨(some 27), 432, none, .bi false .add (.t 12) (.c (.int .i64 1))⟩,
    ⟨(some 12), 192, none, .mv (.t 27)⟩]))))
def c40 : C := (.seq (.reg [⟨(some 2), 32, none, .mv (.c (.nil 1))⟩,
    ⟨(some 3), 48, none, .mv (.c (.int .i64 0))⟩])
  (.seq (.reg [⟨(some 4), 64, none, .mv (.c (.nil 1))⟩])
  (.seq (.reg [⟨(some 5), 80, none, .mv (.c (.int .i64 0))⟩])
  (.seq (.seq (.reg [⟨(some 9), 144, none, .mv (.t 0)⟩,
    ⟨(some 10), 160, none, .call (.c (.fn (.func 50) [] [])) [(.t 9), (.c (.str [10]))]⟩,
    ⟨(some 11), 176, none, .len (.t 10)⟩,
    ⟨(some 12), 192, none, .mv (.c (.int .i64 0))⟩])
  (.block 0 (.loop c40L1)))
  (.seq (.reg [⟨(some 28), 448, none, .mv (.t 4)⟩,
    ⟨(some 29), 464, none, .mv (.t 5)⟩,
    ⟨(some 2), 32, none, .mv (.t 28)⟩,
    ⟨(some 3), 48, none, .mv (.t 29)⟩])
  .ret)))))
theorem fits40 : fits Tryd.prog false Tryd.f40 1 30 [(2, none), (3, none)] = some c40.er := by kernel_rfl
def c22L1 : C := (.seq (.reg [⟨(some 26), 416, none, .bi false .lss (.t 25) (.t 24)⟩])
  (.seq (.cond (.t 26) .skip (.exit 0))
  (.seq (.block 1 (.seq (.reg [⟨(some 27), 432, none, .mv (.t 25)⟩,
    ⟨(some 28), 448, none, .ia 1 (.t 23) (.t 25)⟩,
    ⟨(some 29), 464, none, .ld 1 false (.t 28)⟩,
    ⟨(some 8), 128, none, .mv (.t 27)⟩,
    ⟨(some 9), 144, none, .mv (.t 29)⟩])
  (.seq (.seq (.reg [⟨(some 30), 480, none, .mv (.t 9)⟩,
    ⟨(some 31), 496, none, .len (.t 30)⟩,
    ⟨(some 32), 512, none, .bi false .eql (.t 31) (.c (.int .i64 0))⟩])
  (.cond (.t 32) (.exit 1) .skip))
  (.seq (.reg [⟨(some 34), 544, none, .mv (.t 9)⟩,
    ⟨(some 35), 560, none, .call (.c (.fn (.func 41) [] [])) [(.t 34)]⟩,
    ⟨(some 33), 528, none, .mv (.t 35)⟩,
    ⟨(some 36), 576, none, .ex (.t 33) 0⟩,
    ⟨(some 37), 592, none, .ex (.t 33) 1⟩,
    ⟨(some 10), 160, none, .al [(.int .i64 0), (.int .i64 0), (.int .i64 0), (.int .i64 0)]⟩,
    ⟨none, 0, none, .st 4 (.t 10) (.t 36)⟩,
    ⟨(some 11), 176, none, .mv (.t 37)⟩])
  (.seq (.seq (.reg [⟨(some 38), 608, none, .mv (.t 11)⟩,
    ⟨(some 39), 624, none, .un false .not (.t 38)⟩])
  (.cond (.t 39) (.seq (.reg [⟨(some 40), 640, none, .mv (.t 8)⟩,
    ⟨(some 41), 656, none, .bi false .add (.t 40) (.c (.int .i64 1))⟩,
    ⟨(some 2), 32, none, .mv (.c (.nil 4))⟩,
    ⟨(some 3), 48, none, .mv (.t 41)⟩,
    ⟨(some 4), 64, none, .mv (.c (.int .i64 7))⟩])
  .ret) .skip))
  (.seq (.seq (.reg [⟨(some 42), 672, none, .ld 4 true (.t 10)⟩,
    ⟨(some 43), 688, none, .call (.c (.fn (.func 26) [] [])) [(.t 42)]⟩,
    ⟨(some 12), 192, none, .mv (.t 43)⟩])
  (.seq (.reg [⟨(some 44), 704, none, .mv (.t 12)⟩,
    ⟨(some 45), 720, none, .bi false .neq (.t 44) (.c (.int .i64 0))⟩])
  (.cond (.t 45) (.seq (.reg [⟨(some 46), 736, none, .mv (.t 8)⟩,
    ⟨(some 47), 752, none, .bi false .add (.t 46) (.c (.int .i64 1))⟩,
    ⟨(some 48), 768, none, .mv (.t 12)⟩,
    ⟨(some 2), 32, none, .mv (.c (.nil 4))⟩,
    ⟨(some 3), 48, none, .mv (.t 47)⟩,
    ⟨(some 4), 64, none, .mv (.t 48)⟩])
  .ret) .skip)))
  (.reg [⟨(some 49), 784, none, .mv (.t 7)⟩,
    ⟨(some 50), 800, none, .ld 4 true (.t 10)⟩,
    ⟨(some 51), 816, none, .bs 23 4 [(.t 50)]⟩,
    ⟨(some 52), 832, none, .app 23 4 32 (.t 49) (.t 51)⟩,
    ⟨(some 7), 112, none, .mv (.t 52)⟩])))))))
  (.reg [⟨(some 53), 848, none, .bi false .add (.t 25) (.c (.int .i64 1))⟩,
    ⟨(some 25), 400, none, .mv (.t 53)⟩]))))
def c22 : C := (.seq (.reg [⟨(some 2), 32, none, .mv (.c (.nil 4))⟩,
    ⟨(some 3), 48, none, .mv (.c (.int .i64 0))⟩,
    ⟨(some 4), 64, none, .mv (.c (.int .i64 0))⟩])
  (.seq (.seq (.reg [⟨(some 13), 208, none, .mv (.t 0)⟩,
    ⟨(some 14), 224, none, .lens (.t 13)⟩,
    ⟨(some 15), 240, none, .bi false .gtr (.t 14) (.c (.int .i64 65536))⟩])
  (.cond (.t 15) (.seq (.reg [⟨(some 2), 32, none, .mv (.c (.nil 4))⟩,
    ⟨(some 3), 48, none, .mv (.c (.int .i64 0))⟩,
    ⟨(some 4), 64, none, .mv (.c (.int .i64 10))⟩])
  .ret) .skip))
  (.seq (.reg [⟨(some 17), 272, none, .mv (.t 0)⟩,
    ⟨(some 18), 288, none, .call (.c (.fn (.func 40) [] [])) [(.t 17)]⟩,
    ⟨(some 16), 256, none, .mv (.t 18)⟩,
    ⟨(some 19), 304, none, .ex (.t 16) 0⟩,
    ⟨(some 20), 320, none, .ex (.t 16) 1⟩,
    ⟨(some 5), 80, none, .mv (.t 19)⟩,
    ⟨(some 6), 96, none, .mv (.t 20)⟩])
  (.seq (.seq (.reg [⟨(some 21), 336, none, .mv (.t 6)⟩,
    ⟨(some 22), 352, none, .bi false .gtr (.t 21) (.c (.int .i64 4096))⟩])
  (.cond (.t 22) (.seq (.reg [⟨(some 2), 32, none, .mv (.c (.nil 4))⟩,
    ⟨(some 3), 48, none, .mv (.c (.int .i64 0))⟩,
    ⟨(some 4), 64, none, .mv (.c (.int .i64 10))⟩])
  .ret) .skip))
  (.seq (.reg [⟨(some 7), 112, none, .mv (.c (.nil 4))⟩])
  (.seq (.seq (.reg [⟨(some 23), 368, none, .mv (.t 5)⟩,
    ⟨(some 24), 384, none, .len (.t 23)⟩,
    ⟨(some 25), 400, none, .mv (.c (.int .i64 0))⟩])
  (.block 0 (.loop c22L1)))
  (.seq (.reg [⟨(some 54), 864, none, .mv (.t 7)⟩,
    ⟨(some 2), 32, none, .mv (.t 54)⟩,
    ⟨(some 3), 48, none, .mv (.c (.int .i64 0))⟩,
    ⟨(some 4), 64, none, .mv (.c (.int .i64 0))⟩])
  .ret)))))))
theorem fits22 : fits Tryd.prog false Tryd.f22 1 55 [(2, none), (3, none), (4, none)] = some c22.er := by kernel_rfl

def eWs (w : List (List UInt8)) : List PV := [.sl 0 1 w.length (fl eStr w)]
/-- The words of each line. -/
def linesW (s : List UInt8) : List (List (List UInt8)) := (splitC 10 s).map (wordsB isBl)
/-- How many lines have words. -/
def cntW (W : List (List (List UInt8))) : Nat := (W.filter fun w => !w.isEmpty).length
theorem cntW_le (W : List (List (List UInt8))) : cntW W ≤ W.length := List.length_filter_le _ _
theorem cntW_push (W : List (List (List UInt8))) (w : List (List UInt8)) : cntW (W ++ [w]) = cntW W + if w.isEmpty then 0 else 1 := by
  unfold cntW
  rw [List.filter_append, List.length_append]
  cases h : w.isEmpty <;> simp [h]
theorem take_push {α : Type} [Inhabited α] {l : List α} {i : Nat} (h : i < l.length) : l.take (i + 1) = l.take i ++ [l.getD i default] := by
  rw [List.take_add_one, getD_some h]; rfl
theorem linesW_getD {s : List UInt8} {i : Nat} (h : i < (splitC 10 s).length) : (linesW s).getD i default = wordsB isBl ((splitC 10 s).getD i default) := by
  simp [linesW, List.getD, h]
theorem linesW_len (s : List UInt8) : (linesW s).length = (splitC 10 s).length := by simp [linesW]

set_option maxRecDepth 100000 in
set_option maxHeartbeats 8000000 in
theorem call40 (s : List UInt8) (hs : s.length ≤ 65536) : PureCall Tryd.prog 40 [.str s] [] ⟨.tup [.os 1000000000, .int .i64 (cntW (linesW s))], [], [.row 0 49 1 (linesW s).length (fl eWs (linesW s))]⟩ := by
  obtain ⟨L, hL⟩ : ∃ L, L = splitC 10 s := ⟨_, rfl⟩
  obtain ⟨W, hW⟩ : ∃ W, W = linesW s := ⟨_, rfl⟩
  have hWl : W.length = L.length := by rw [hW, hL, linesW_len]
  have hLl : L.length ≤ 65537 := by have := (splitC_len 10 s).1; rw [← hL] at this; omega
  have hWg : ∀ i, i < L.length → W.getD i default = wordsB isBl (L.getD i default) := fun i hi => by
    rw [hW, linesW_getD (by rw [← hL]; exact hi), hL]
  have hLm : ∀ i, i < L.length → (L.getD i default).length ≤ 65536 := fun i hi => by
    have := (splitC_len 10 s).2 (L.getD i default) (by rw [← hL]; exact getD_mem hi); omega
  refine pure_call mix Tryd.func40 fits40 rfl ?_
  conv => whnf
  refine ⟨_, fun _ => call50 s 10 (by omega), ?_⟩
  rw [← hL, ← hW]
  conv => whnf
  refine ⟨?_, ?_⟩
  · (try conv => whnf)
    (repeat' (first | exact True.intro | exact fun _ h => h | refine inR64_of ?_ ?_ | apply And.intro | refine maxLen_ge ?_)) <;> (first | omega | decide | (dsimp only; omega) | (dsimp only [List.length_cons, List.length_nil]; omega) | (intro hg; rw [hg]; rfl) | (intro hg hh; rw [hg, hh]; rfl) | (intro hg; simp [-List.getD_eq_getElem?_getD, -Int.default_eq_zero] at hg; first | omega | (refine inR64_of ?_ ?_ <;> omega) | (constructor <;> omega)) | (simp [-List.getD_eq_getElem?_getD, -Int.default_eq_zero]; done))
  refine LSem.adopt 4 1000000 49 1 1 rfl rfl ?_
  refine LSem.loop (n := 30) mix (α := Nat) (fun i => i ≤ L.length)
    (fun i => [(4, .os 1000000), (5, .int .i64 (cntW (W.take i))), (10, .os 160), (11, .int .i64 L.length), (12, .int .i64 i)])
    (fun i => [(1000000, .row 0 49 1 (W.take i).length (fl eWs (W.take i))), (160, .row 0 9 1 L.length (fl eStr L))]) (fun i => L.length - i) 0 ?_ ?_ ?_
  · exact Nat.zero_le _
  · refine ⟨rfl, rfl, ?_, ?_⟩
    all_goals repeat' (first | exact True.intro | refine leF_cons rfl ?_ ?_ | refine leS_cons rfl ?_ ?_ | (show PLe _ _ _ _; conv => whnf) | (show SLe _ _ _ _; conv => whnf) | (show PLeL _ _ _ _; conv => whnf) | apply And.intro | rfl | exact Nat.le_refl _ | exact fun _ _ => rfl | exact rowEq0 _ _)
    all_goals skip
  · intro i hi
    have hj : ((i : Int)).toNat = i := by omega
    conv => whnf
    refine ⟨trivial, fun hc => ?_, fun hc => ?_⟩
    · replace hc := of_decide_eq_true hc
      have hlt : i < L.length := by
        have h : (i : Int) < L.length := hc
        omega
      have hcl := cntW_le (W.take i)
      have htl : (W.take i).length = i := by rw [List.length_take]; omega
      have htp : W.take (i + 1) = W.take i ++ [W.getD i default] := take_push (by omega)
      have hcp := cntW_push (W.take i) (W.getD i default)
      rw [← htp] at hcp
      have hWi := hWg i hlt
      have hwl : (W.getD i default).length ≤ 65537 := by rw [hWi]; have := wordsB_len isBl (L.getD i default); have := hLm i hlt; omega
      conv => whnf
      rw [hj]
      refine ⟨_, fun _ => call51 (L.getD i default) (hLm i hlt), ?_⟩
      rw [← hWi]
      have q := fl_push eWs (W.take i) (W.getD i default)
      rw [← htp] at q
      have hxl : (W.take (i + 1)).length = (W.take i).length + 1 := by rw [htp]; simp
      conv => whnf
      refine ⟨?_, fun hgt => ?_, fun hgt => ?_⟩
      · (try conv => whnf)
        (repeat' (first | exact True.intro | exact fun _ h => h | refine inR64_of ?_ ?_ | apply And.intro | refine maxLen_ge ?_)) <;> (first | omega | decide | (dsimp only; omega) | (dsimp only [List.length_cons, List.length_nil]; omega) | (intro hg; rw [hg]; rfl) | (intro hg hh; rw [hg, hh]; rfl) | (intro hg; simp [-List.getD_eq_getElem?_getD, -Int.default_eq_zero] at hg; first | omega | (refine inR64_of ?_ ?_ <;> omega) | (constructor <;> omega)) | (simp [-List.getD_eq_getElem?_getD, -Int.default_eq_zero]; done))
      · simp only [bif_t, bif_f, decide_eq_true_eq, decide_eq_false_iff_not, Bool.not_eq_true', Bool.not_eq_false', Bool.and_eq_true, Bool.or_eq_true, Bool.and_eq_false_iff, Bool.or_eq_false_iff, beq_iff_eq, bne_iff_ne, beq_eq_false_iff_ne, bne_eq_false_iff_eq, reduceCtorEq, false_and, and_false, true_and, and_true, or_false, false_or, or_true, true_or, not_true_eq_false, not_false_eq_true, Int.toNat_zero] at hgt
        have hne : (W.getD i default).isEmpty = false := by
          cases hE : W.getD i default with
          | nil => rw [hE] at hgt; simp at hgt
          | cons _ _ => rfl
        rw [hne] at hcp
        conv => whnf
        refine ⟨?_, i + 1, hlt, ?_, rfl, rfl, ?_, ?_⟩
        · (try conv => whnf)
          (repeat' (first | exact True.intro | exact fun _ h => h | refine inR64_of ?_ ?_ | apply And.intro | refine maxLen_ge ?_)) <;> (first | omega | decide | (dsimp only; omega) | (dsimp only [List.length_cons, List.length_nil]; omega) | (intro hg; rw [hg]; rfl) | (intro hg hh; rw [hg, hh]; rfl) | (intro hg; simp [-List.getD_eq_getElem?_getD, -Int.default_eq_zero] at hg; first | omega | (refine inR64_of ?_ ?_ <;> omega) | (constructor <;> omega)) | (simp [-List.getD_eq_getElem?_getD, -Int.default_eq_zero]; done))
        · omega
        all_goals repeat' (first | exact True.intro | refine leF_cons rfl ?_ ?_ | refine leS_cons rfl ?_ ?_ | (show PLe _ _ _ _; conv => whnf) | (show SLe _ _ _ _; conv => whnf) | (show PLeL _ _ _ _; conv => whnf) | apply And.intro | rfl | exact Nat.le_refl _ | exact fun _ _ => rfl | exact rowEq0 _ _)
        all_goals first | exact q | (rw [hxl]; rfl) | (rw [hxl]; done) | (rw [hcp]; rfl) | omega | skip
      · simp only [bif_t, bif_f, decide_eq_true_eq, decide_eq_false_iff_not, Bool.not_eq_true', Bool.not_eq_false', Bool.and_eq_true, Bool.or_eq_true, Bool.and_eq_false_iff, Bool.or_eq_false_iff, beq_iff_eq, bne_iff_ne, beq_eq_false_iff_ne, bne_eq_false_iff_eq, reduceCtorEq, false_and, and_false, true_and, and_true, or_false, false_or, or_true, true_or, not_true_eq_false, not_false_eq_true, Int.toNat_zero] at hgt
        have hne : (W.getD i default).isEmpty = true := by
          cases hE : W.getD i default with
          | nil => rfl
          | cons _ _ => rw [hE] at hgt; simp at hgt
        rw [hne] at hcp
        conv => whnf
        refine ⟨?_, i + 1, hlt, ?_, rfl, rfl, ?_, ?_⟩
        · (try conv => whnf)
          (repeat' (first | exact True.intro | exact fun _ h => h | refine inR64_of ?_ ?_ | apply And.intro | refine maxLen_ge ?_)) <;> (first | omega | decide | (dsimp only; omega) | (dsimp only [List.length_cons, List.length_nil]; omega) | (intro hg; rw [hg]; rfl) | (intro hg hh; rw [hg, hh]; rfl) | (intro hg; simp [-List.getD_eq_getElem?_getD, -Int.default_eq_zero] at hg; first | omega | (refine inR64_of ?_ ?_ <;> omega) | (constructor <;> omega)) | (simp [-List.getD_eq_getElem?_getD, -Int.default_eq_zero]; done))
        · omega
        all_goals repeat' (first | exact True.intro | refine leF_cons rfl ?_ ?_ | refine leS_cons rfl ?_ ?_ | (show PLe _ _ _ _; conv => whnf) | (show SLe _ _ _ _; conv => whnf) | (show PLeL _ _ _ _; conv => whnf) | apply And.intro | rfl | exact Nat.le_refl _ | exact fun _ _ => rfl | exact rowEq0 _ _)
        all_goals first | exact q | (rw [hxl]; rfl) | (rw [hxl]; done) | (rw [hcp]; rfl) | omega | skip
    · replace hc := of_decide_eq_false hc
      have hk : i = L.length := by
        have h : ¬ (i : Int) < L.length := hc
        omega
      subst hk
      rw [← hWl, List.take_length]
      conv => whnf
      refine ⟨?_, [1000000], ?_⟩
      · (try conv => whnf)
        (repeat' (first | exact True.intro | exact fun _ h => h | refine inR64_of ?_ ?_ | apply And.intro | refine maxLen_ge ?_)) <;> (first | omega | decide | (dsimp only; omega) | (dsimp only [List.length_cons, List.length_nil]; omega) | (intro hg; rw [hg]; rfl) | (intro hg hh; rw [hg, hh]; rfl) | (intro hg; simp [-List.getD_eq_getElem?_getD, -Int.default_eq_zero] at hg; first | omega | (refine inR64_of ?_ ?_ <;> omega) | (constructor <;> omega)) | (simp [-List.getD_eq_getElem?_getD, -Int.default_eq_zero]; done))
      conv => whnf
      refine ⟨rfl, ?_, trivial, ?_⟩
      all_goals repeat' (first | exact True.intro | refine leF_cons rfl ?_ ?_ | refine leS_cons rfl ?_ ?_ | (show PLe _ _ _ _; conv => whnf) | (show SLe _ _ _ _; conv => whnf) | (show PLeL _ _ _ _; conv => whnf) | apply And.intro | rfl | exact Nat.le_refl _ | exact fun _ _ => rfl | exact rowEq0 _ _)
      all_goals skip
/-- The readings of lines of words; where an error is, and the error. -/
def parL : Int → List Rd → List (List (List UInt8)) → List Rd × Int × Int
  | _, out, [] => (out, 0, 0)
  | i, out, w :: r => if w.length = 0 then parL (i + 1) out r else if (lineG w).2 = false then ([], i + 1, 7) else if checkR (lineG w).1 ≠ 0 then ([], i + 1, checkR (lineG w).1) else parL (i + 1) (out ++ [(lineG w).1]) r
def parseF (s : List UInt8) : List Rd × Int × Int := if 65536 < s.length then ([], 0, 10) else if 4096 < cntW (linesW s) then ([], 0, 10) else parL 0 [] (linesW s)
theorem parL_drop {W : List (List (List UInt8))} {i : Nat} (out : List Rd) (h : i < W.length) : parL (i : Int) out (W.drop i) = if (W.getD i default).length = 0 then parL ((i : Int) + 1) out (W.drop (i + 1)) else if (lineG (W.getD i default)).2 = false then ([], (i : Int) + 1, 7) else
    if checkR (lineG (W.getD i default)).1 ≠ 0 then ([], (i : Int) + 1, checkR (lineG (W.getD i default)).1) else parL ((i : Int) + 1) (out ++ [(lineG (W.getD i default)).1]) (W.drop (i + 1)) := by
  rw [List.drop_eq_getElem_cons h]
  have : W.getD i default = W[i] := by simp [List.getD, h]
  rw [this]; rfl
theorem lineG_lens {s : List UInt8} (hs : s.length ≤ 65536) {i : Nat} (h : i < (linesW s).length) : ((linesW s).getD i default).length ≤ 65537 ∧ ∀ k, k < ((linesW s).getD i default).length → (((linesW s).getD i default).getD k default).length ≤ 65536 := by
  rw [linesW_len] at h
  rw [linesW_getD h]
  have h1 := (splitC_len 10 s).2 _ (getD_mem h)
  have h2 := wordsB_len isBl ((splitC 10 s).getD i default)
  exact ⟨by omega, fun k hk => by have := wordsB_mem (getD_mem hk); omega⟩

set_option maxRecDepth 100000 in
set_option maxHeartbeats 8000000 in
theorem call22 (s : List UInt8) (hs : s.length ≤ 4611686018427387904) : PureCall Tryd.prog 22 [.str s] [] ⟨.tup [.sl 0 4 (parseF s).1.length (fl eRd (parseF s).1), .int .i64 (parseF s).2.1, .int .i64 (parseF s).2.2], [], []⟩ := by
  refine pure_call mix Tryd.func22 fits22 rfl ?_
  conv => whnf
  refine ⟨?_, fun hc => ?_, fun hc => ?_⟩
  · (try conv => whnf)
    (repeat' (first | exact True.intro | exact fun _ h => h | refine inR64_of ?_ ?_ | apply And.intro | refine maxLen_ge ?_)) <;> (first | omega | decide | (dsimp only; omega) | (dsimp only [List.length_cons, List.length_nil]; omega) | (intro hg; rw [hg]; rfl) | (intro hg hh; rw [hg, hh]; rfl) | (intro hg; simp [-List.getD_eq_getElem?_getD, -Int.default_eq_zero] at hg; first | omega | (refine inR64_of ?_ ?_ <;> omega) | (constructor <;> omega)) | (simp [-List.getD_eq_getElem?_getD, -Int.default_eq_zero]; done))
  · simp only [bif_t, bif_f, decide_eq_true_eq, decide_eq_false_iff_not, Bool.not_eq_true', Bool.not_eq_false', Bool.and_eq_true, Bool.or_eq_true, Bool.and_eq_false_iff, Bool.or_eq_false_iff, beq_iff_eq, bne_iff_ne, beq_eq_false_iff_ne, bne_eq_false_iff_eq, reduceCtorEq, false_and, and_false, true_and, and_true, or_false, false_or, or_true, true_or, not_true_eq_false, not_false_eq_true, Int.toNat_zero] at hc
    rw [show parseF s = ([], 0, 10) by unfold parseF; rw [if_pos (by omega)]]
    conv => whnf
    refine ⟨?_, [], ?_⟩
    · (try conv => whnf)
      (repeat' (first | exact True.intro | exact fun _ h => h | refine inR64_of ?_ ?_ | apply And.intro | refine maxLen_ge ?_)) <;> (first | omega | decide | (dsimp only; omega) | (dsimp only [List.length_cons, List.length_nil]; omega) | (intro hg; rw [hg]; rfl) | (intro hg hh; rw [hg, hh]; rfl) | (intro hg; simp [-List.getD_eq_getElem?_getD, -Int.default_eq_zero] at hg; first | omega | (refine inR64_of ?_ ?_ <;> omega) | (constructor <;> omega)) | (simp [-List.getD_eq_getElem?_getD, -Int.default_eq_zero]; done))
    conv => whnf
    refine ⟨rfl, ?_, trivial, trivial⟩
    all_goals repeat' (first | exact True.intro | refine leF_cons rfl ?_ ?_ | refine leS_cons rfl ?_ ?_ | (show PLe _ _ _ _; conv => whnf) | (show SLe _ _ _ _; conv => whnf) | (show PLeL _ _ _ _; conv => whnf) | apply And.intro | rfl | exact Nat.le_refl _ | exact fun _ _ => rfl | exact rowEq0 _ _)
  simp only [bif_t, bif_f, decide_eq_true_eq, decide_eq_false_iff_not, Bool.not_eq_true', Bool.not_eq_false', Bool.and_eq_true, Bool.or_eq_true, Bool.and_eq_false_iff, Bool.or_eq_false_iff, beq_iff_eq, bne_iff_ne, beq_eq_false_iff_ne, bne_eq_false_iff_eq, reduceCtorEq, false_and, and_false, true_and, and_true, or_false, false_or, or_true, true_or, not_true_eq_false, not_false_eq_true, Int.toNat_zero] at hc
  have hs2 : s.length ≤ 65536 := by omega
  have hll := linesW_len s
  have hll2 := (splitC_len 10 s).1
  have hcn := cntW_le (linesW s)
  have hlen := fun i => lineG_lens hs2 (i := i)
  conv => whnf
  refine ⟨_, fun _ => call40 s hs2, ?_⟩
  conv => whnf
  refine ⟨?_, fun hc2 => ?_, fun hc2 => ?_⟩
  · (try conv => whnf)
    (repeat' (first | exact True.intro | exact fun _ h => h | refine inR64_of ?_ ?_ | apply And.intro | refine maxLen_ge ?_)) <;> (first | omega | decide | (dsimp only; omega) | (dsimp only [List.length_cons, List.length_nil]; omega) | (intro hg; rw [hg]; rfl) | (intro hg hh; rw [hg, hh]; rfl) | (intro hg; simp [-List.getD_eq_getElem?_getD, -Int.default_eq_zero] at hg; first | omega | (refine inR64_of ?_ ?_ <;> omega) | (constructor <;> omega)) | (simp [-List.getD_eq_getElem?_getD, -Int.default_eq_zero]; done))
  · simp only [bif_t, bif_f, decide_eq_true_eq, decide_eq_false_iff_not, Bool.not_eq_true', Bool.not_eq_false', Bool.and_eq_true, Bool.or_eq_true, Bool.and_eq_false_iff, Bool.or_eq_false_iff, beq_iff_eq, bne_iff_ne, beq_eq_false_iff_ne, bne_eq_false_iff_eq, reduceCtorEq, false_and, and_false, true_and, and_true, or_false, false_or, or_true, true_or, not_true_eq_false, not_false_eq_true, Int.toNat_zero] at hc2
    rw [show parseF s = ([], 0, 10) by unfold parseF; rw [if_neg (by omega), if_pos (by omega)]]
    conv => whnf
    refine ⟨?_, [], ?_⟩
    · (try conv => whnf)
      (repeat' (first | exact True.intro | exact fun _ h => h | refine inR64_of ?_ ?_ | apply And.intro | refine maxLen_ge ?_)) <;> (first | omega | decide | (dsimp only; omega) | (dsimp only [List.length_cons, List.length_nil]; omega) | (intro hg; rw [hg]; rfl) | (intro hg hh; rw [hg, hh]; rfl) | (intro hg; simp [-List.getD_eq_getElem?_getD, -Int.default_eq_zero] at hg; first | omega | (refine inR64_of ?_ ?_ <;> omega) | (constructor <;> omega)) | (simp [-List.getD_eq_getElem?_getD, -Int.default_eq_zero]; done))
    conv => whnf
    refine ⟨rfl, ?_, trivial, trivial⟩
    all_goals repeat' (first | exact True.intro | refine leF_cons rfl ?_ ?_ | refine leS_cons rfl ?_ ?_ | (show PLe _ _ _ _; conv => whnf) | (show SLe _ _ _ _; conv => whnf) | (show PLeL _ _ _ _; conv => whnf) | apply And.intro | rfl | exact Nat.le_refl _ | exact fun _ _ => rfl | exact rowEq0 _ _)
  simp only [bif_t, bif_f, decide_eq_true_eq, decide_eq_false_iff_not, Bool.not_eq_true', Bool.not_eq_false', Bool.and_eq_true, Bool.or_eq_true, Bool.and_eq_false_iff, Bool.or_eq_false_iff, beq_iff_eq, bne_iff_ne, beq_eq_false_iff_ne, bne_eq_false_iff_eq, reduceCtorEq, false_and, and_false, true_and, and_true, or_false, false_or, or_true, true_or, not_true_eq_false, not_false_eq_true, Int.toNat_zero] at hc2
  rw [show parseF s = parL 0 [] (linesW s) by unfold parseF; rw [if_neg (by omega), if_neg (by omega)]]
  generalize linesW s = W at hll hcn hlen ⊢
  have hWl : W.length ≤ 65537 := by omega
  conv => whnf
  refine ⟨trivial, ?_⟩
  refine LSem.adopt 7 1000000 23 4 4 rfl rfl ?_
  refine LSem.loop (n := 55) mix (α := Nat × List Rd) (fun x => x.1 ≤ W.length ∧ x.2.length ≤ x.1 ∧ parL (x.1 : Int) x.2 (W.drop x.1) = parL 0 [] W)
    (fun x => [(7, .os 1000000), (23, .os 288), (24, .int .i64 W.length), (25, .int .i64 x.1)])
    (fun x => [(1000000, .row 0 23 4 x.2.length (fl eRd x.2)), (288, .row 0 49 1 W.length (fl eWs W))]) (fun x => W.length - x.1) (0, []) ?_ ?_ ?_
  · exact ⟨Nat.zero_le _, Nat.le_refl _, rfl⟩
  · refine ⟨rfl, rfl, ?_, ?_⟩
    all_goals repeat' (first | exact True.intro | refine leF_cons rfl ?_ ?_ | refine leS_cons rfl ?_ ?_ | (show PLe _ _ _ _; conv => whnf) | (show SLe _ _ _ _; conv => whnf) | (show PLeL _ _ _ _; conv => whnf) | apply And.intro | rfl | exact Nat.le_refl _ | exact fun _ _ => rfl | exact rowEq0 _ _)
    all_goals skip
  · intro x hx
    obtain ⟨i, out⟩ := x
    obtain ⟨hi, ho, hp⟩ := hx
    dsimp only at hi ho hp
    have hj : ((i : Int)).toNat = i := by omega
    conv => whnf
    refine ⟨trivial, fun hc3 => ?_, fun hc3 => ?_⟩
    · replace hc3 := of_decide_eq_true hc3
      have hlt : i < W.length := by
        have h : (i : Int) < W.length := hc3
        omega
      obtain ⟨hl1, hl2⟩ := hlen i hlt
      rw [parL_drop out hlt] at hp
      conv => whnf
      dsimp only
      rw [hj]
      refine ⟨?_, fun hz => ?_, fun hz => ?_⟩
      · (try conv => whnf)
        (repeat' (first | exact True.intro | exact fun _ h => h | refine inR64_of ?_ ?_ | apply And.intro | refine maxLen_ge ?_)) <;> (first | omega | decide | (dsimp only; omega) | (dsimp only [List.length_cons, List.length_nil]; omega) | (intro hg; rw [hg]; rfl) | (intro hg hh; rw [hg, hh]; rfl) | (intro hg; simp [-List.getD_eq_getElem?_getD, -Int.default_eq_zero] at hg; first | omega | (refine inR64_of ?_ ?_ <;> omega) | (constructor <;> omega)) | (simp [-List.getD_eq_getElem?_getD, -Int.default_eq_zero]; done))
      · simp only [bif_t, bif_f, decide_eq_true_eq, decide_eq_false_iff_not, Bool.not_eq_true', Bool.not_eq_false', Bool.and_eq_true, Bool.or_eq_true, Bool.and_eq_false_iff, Bool.or_eq_false_iff, beq_iff_eq, bne_iff_ne, beq_eq_false_iff_ne, bne_eq_false_iff_eq, reduceCtorEq, false_and, and_false, true_and, and_true, or_false, false_or, or_true, true_or, not_true_eq_false, not_false_eq_true, Int.toNat_zero] at hz
        rw [if_pos (by omega)] at hp
        conv => whnf
        refine ⟨?_, (i + 1, out), ⟨hlt, by dsimp only; omega, hp⟩, ?_, rfl, rfl, ?_, ?_⟩
        · (try conv => whnf)
          (repeat' (first | exact True.intro | exact fun _ h => h | refine inR64_of ?_ ?_ | apply And.intro | refine maxLen_ge ?_)) <;> (first | omega | decide | (dsimp only; omega) | (dsimp only [List.length_cons, List.length_nil]; omega) | (intro hg; rw [hg]; rfl) | (intro hg hh; rw [hg, hh]; rfl) | (intro hg; simp [-List.getD_eq_getElem?_getD, -Int.default_eq_zero] at hg; first | omega | (refine inR64_of ?_ ?_ <;> omega) | (constructor <;> omega)) | (simp [-List.getD_eq_getElem?_getD, -Int.default_eq_zero]; done))
        · dsimp only; omega
        all_goals repeat' (first | exact True.intro | refine leF_cons rfl ?_ ?_ | refine leS_cons rfl ?_ ?_ | (show PLe _ _ _ _; conv => whnf) | (show SLe _ _ _ _; conv => whnf) | (show PLeL _ _ _ _; conv => whnf) | apply And.intro | rfl | exact Nat.le_refl _ | exact fun _ _ => rfl | exact rowEq0 _ _)
        all_goals first | (dsimp only; omega) | skip
      simp only [bif_t, bif_f, decide_eq_true_eq, decide_eq_false_iff_not, Bool.not_eq_true', Bool.not_eq_false', Bool.and_eq_true, Bool.or_eq_true, Bool.and_eq_false_iff, Bool.or_eq_false_iff, beq_iff_eq, bne_iff_ne, beq_eq_false_iff_ne, bne_eq_false_iff_eq, reduceCtorEq, false_and, and_false, true_and, and_true, or_false, false_or, or_true, true_or, not_true_eq_false, not_false_eq_true, Int.toNat_zero] at hz
      rw [if_neg (by omega)] at hp
      conv => whnf
      refine ⟨_, fun _ => call41 1 (W.getD i default) (by omega) (fun k hk => by have := hl2 k hk; omega), ?_⟩
      generalize lineG (W.getD i default) = R at hp ⊢
      conv => whnf
      refine ⟨?_, fun h1 => ?_, fun h1 => ?_⟩
      · (try conv => whnf)
        (repeat' (first | exact True.intro | exact fun _ h => h | refine inR64_of ?_ ?_ | apply And.intro | refine maxLen_ge ?_)) <;> (first | omega | decide | (dsimp only; omega) | (dsimp only [List.length_cons, List.length_nil]; omega) | (intro hg; rw [hg]; rfl) | (intro hg hh; rw [hg, hh]; rfl) | (intro hg; simp [-List.getD_eq_getElem?_getD, -Int.default_eq_zero] at hg; first | omega | (refine inR64_of ?_ ?_ <;> omega) | (constructor <;> omega)) | (simp [-List.getD_eq_getElem?_getD, -Int.default_eq_zero]; done))
        all_goals skip
      · simp only [bif_t, bif_f, decide_eq_true_eq, decide_eq_false_iff_not, Bool.not_eq_true', Bool.not_eq_false', Bool.and_eq_true, Bool.or_eq_true, Bool.and_eq_false_iff, Bool.or_eq_false_iff, beq_iff_eq, bne_iff_ne, beq_eq_false_iff_ne, bne_eq_false_iff_eq, reduceCtorEq, false_and, and_false, true_and, and_true, or_false, false_or, or_true, true_or, not_true_eq_false, not_false_eq_true, Int.toNat_zero] at h1
        rw [if_pos h1] at hp
        rw [← hp]
        conv => whnf
        refine ⟨?_, [], ?_⟩
        · (try conv => whnf)
          (repeat' (first | exact True.intro | exact fun _ h => h | refine inR64_of ?_ ?_ | apply And.intro | refine maxLen_ge ?_)) <;> (first | omega | decide | (dsimp only; omega) | (dsimp only [List.length_cons, List.length_nil]; omega) | (intro hg; rw [hg]; rfl) | (intro hg hh; rw [hg, hh]; rfl) | (intro hg; simp [-List.getD_eq_getElem?_getD, -Int.default_eq_zero] at hg; first | omega | (refine inR64_of ?_ ?_ <;> omega) | (constructor <;> omega)) | (simp [-List.getD_eq_getElem?_getD, -Int.default_eq_zero]; done))
        conv => whnf
        refine ⟨rfl, ?_, trivial, trivial⟩
        all_goals repeat' (first | exact True.intro | refine leF_cons rfl ?_ ?_ | refine leS_cons rfl ?_ ?_ | (show PLe _ _ _ _; conv => whnf) | (show SLe _ _ _ _; conv => whnf) | (show PLeL _ _ _ _; conv => whnf) | apply And.intro | rfl | exact Nat.le_refl _ | exact fun _ _ => rfl | exact rowEq0 _ _)
      simp only [bif_t, bif_f, decide_eq_true_eq, decide_eq_false_iff_not, Bool.not_eq_true', Bool.not_eq_false', Bool.and_eq_true, Bool.or_eq_true, Bool.and_eq_false_iff, Bool.or_eq_false_iff, beq_iff_eq, bne_iff_ne, beq_eq_false_iff_ne, bne_eq_false_iff_eq, reduceCtorEq, false_and, and_false, true_and, and_true, or_false, false_or, or_true, true_or, not_true_eq_false, not_false_eq_true, Int.toNat_zero] at h1
      rw [if_neg (by rw [h1]; decide)] at hp
      conv => whnf
      refine ⟨_, fun _ => call26 R.1, ?_⟩
      conv => whnf
      refine ⟨?_, fun h2 => ?_, fun h2 => ?_⟩
      · (try conv => whnf)
        (repeat' (first | exact True.intro | exact fun _ h => h | refine inR64_of ?_ ?_ | apply And.intro | refine maxLen_ge ?_)) <;> (first | omega | decide | (dsimp only; omega) | (dsimp only [List.length_cons, List.length_nil]; omega) | (intro hg; rw [hg]; rfl) | (intro hg hh; rw [hg, hh]; rfl) | (intro hg; simp [-List.getD_eq_getElem?_getD, -Int.default_eq_zero] at hg; first | omega | (refine inR64_of ?_ ?_ <;> omega) | (constructor <;> omega)) | (simp [-List.getD_eq_getElem?_getD, -Int.default_eq_zero]; done))
      · have h2' : checkR R.1 ≠ 0 := by simpa using h2
        rw [if_pos h2'] at hp
        rw [← hp]
        conv => whnf
        refine ⟨?_, [], ?_⟩
        · (try conv => whnf)
          (repeat' (first | exact True.intro | exact fun _ h => h | refine inR64_of ?_ ?_ | apply And.intro | refine maxLen_ge ?_)) <;> (first | omega | decide | (dsimp only; omega) | (dsimp only [List.length_cons, List.length_nil]; omega) | (intro hg; rw [hg]; rfl) | (intro hg hh; rw [hg, hh]; rfl) | (intro hg; simp [-List.getD_eq_getElem?_getD, -Int.default_eq_zero] at hg; first | omega | (refine inR64_of ?_ ?_ <;> omega) | (constructor <;> omega)) | (simp [-List.getD_eq_getElem?_getD, -Int.default_eq_zero]; done))
        conv => whnf
        refine ⟨rfl, ?_, trivial, trivial⟩
        all_goals repeat' (first | exact True.intro | refine leF_cons rfl ?_ ?_ | refine leS_cons rfl ?_ ?_ | (show PLe _ _ _ _; conv => whnf) | (show SLe _ _ _ _; conv => whnf) | (show PLeL _ _ _ _; conv => whnf) | apply And.intro | rfl | exact Nat.le_refl _ | exact fun _ _ => rfl | exact rowEq0 _ _)
      · have h2' : ¬ checkR R.1 ≠ 0 := by simpa using h2
        rw [if_neg h2'] at hp
        have q := fl_push eRd out R.1
        have hxl : (out ++ [R.1]).length = out.length + 1 := by simp
        conv => whnf
        refine ⟨?_, (i + 1, out ++ [R.1]), ⟨hlt, by dsimp only; rw [hxl]; omega, hp⟩, ?_, rfl, rfl, ?_, ?_⟩
        · (try conv => whnf)
          (repeat' (first | exact True.intro | exact fun _ h => h | refine inR64_of ?_ ?_ | apply And.intro | refine maxLen_ge ?_)) <;> (first | omega | decide | (dsimp only; omega) | (dsimp only [List.length_cons, List.length_nil]; omega) | (intro hg; rw [hg]; rfl) | (intro hg hh; rw [hg, hh]; rfl) | (intro hg; simp [-List.getD_eq_getElem?_getD, -Int.default_eq_zero] at hg; first | omega | (refine inR64_of ?_ ?_ <;> omega) | (constructor <;> omega)) | (simp [-List.getD_eq_getElem?_getD, -Int.default_eq_zero]; done))
        · dsimp only; omega
        all_goals repeat' (first | exact True.intro | refine leF_cons rfl ?_ ?_ | refine leS_cons rfl ?_ ?_ | (show PLe _ _ _ _; conv => whnf) | (show SLe _ _ _ _; conv => whnf) | (show PLeL _ _ _ _; conv => whnf) | apply And.intro | rfl | exact Nat.le_refl _ | exact fun _ _ => rfl | exact rowEq0 _ _)
        all_goals first | exact q | (dsimp only; rw [hxl]; rfl) | (dsimp only; rw [hxl]; done) | (dsimp only; omega) | skip
    · replace hc3 := of_decide_eq_false hc3
      have hk : i = W.length := by
        have h : ¬ (i : Int) < W.length := hc3
        omega
      subst hk
      rw [List.drop_length] at hp
      have hp2 : (out, (0 : Int), (0 : Int)) = parL 0 [] W := hp
      rw [← hp2]
      conv => whnf
      refine ⟨?_, [], ?_⟩
      · (try conv => whnf)
        (repeat' (first | exact True.intro | exact fun _ h => h | refine inR64_of ?_ ?_ | apply And.intro | refine maxLen_ge ?_)) <;> (first | omega | decide | (dsimp only; omega) | (dsimp only [List.length_cons, List.length_nil]; omega) | (intro hg; rw [hg]; rfl) | (intro hg hh; rw [hg, hh]; rfl) | (intro hg; simp [-List.getD_eq_getElem?_getD, -Int.default_eq_zero] at hg; first | omega | (refine inR64_of ?_ ?_ <;> omega) | (constructor <;> omega)) | (simp [-List.getD_eq_getElem?_getD, -Int.default_eq_zero]; done))
      conv => whnf
      refine ⟨rfl, ?_, trivial, trivial⟩
      all_goals repeat' (first | exact True.intro | refine leF_cons rfl ?_ ?_ | refine leS_cons rfl ?_ ?_ | (show PLe _ _ _ _; conv => whnf) | (show SLe _ _ _ _; conv => whnf) | (show PLeL _ _ _ _; conv => whnf) | apply And.intro | rfl | exact Nat.le_refl _ | exact fun _ _ => rfl | exact rowEq0 _ _)
end Pv
end Go.Proofs.YtgbknfbcjddnhaaDoor
