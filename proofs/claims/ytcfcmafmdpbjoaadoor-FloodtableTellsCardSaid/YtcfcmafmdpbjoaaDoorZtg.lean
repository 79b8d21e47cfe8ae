/- THE LIBRARY's slices.Compact AT NUMBERS, as a call that writes into a slice of the caller's own. -/
import Derived.Test.YtcfcmafmdpbjoaaDoorZtf
import Derived.Shelf.Strings.BuilderK
import Derived.Shelf.Strings.Split
import Derived.Shelf.Strings.Cut
import Derived.Test.YtcfcmafmdpbjoaaDoorRows
import Derived.Shelf.Strconv.Itoa3
import Derived.Shelf.Sort.Plain
import Derived.Shelf.Slices.In.SortNone
import Derived.Shelf.Slices.Clone
import Derived.Shelf.Slices.CompactI
import Derived.Shelf.Slices.Equal
import Derived.Shelf.Slices.Empties2
import Derived.Lib.ItoaLen
import Derived.ProofKit
import Derived.ChangeOld
import Derived.DataElems
import Derived.Below
import Derived.SizedLaws
import Derived.Sort.OwnSortedInts
import Derived.Shelf.Spec.SlicesGrow
/- THE LIBRARY's strings.Builder: what its functions leave of the builder, and that nothing else changes. -/
set_option linter.unusedSimpArgs false
set_option linter.unusedVariables false
namespace Go.Proofs.YtcfcmafmdpbjoaaDoor
namespace Pv
open Go.Shelf Go.RowKit
variable {P : Program} {ρ : Ren}
structure Held (T e : TypeId) (b : Nat) (p v : Value) (s : List UInt8) (w : World) : Prop where
  cells : w.heap[b]? = some (.cells #[p, v] T (0, 0))
  own : w.ownsRowF 0 e 1 v s.length (bytesV s)
  ne : v.ownBlock ≠ some b
def self (b : Nat) : Value := .pointer (some ⟨b, 0, none⟩)
theorem bytesV_length (s : List UInt8) : (bytesV s).length = s.length := by simp [bytesV]
theorem strCells_bytes (s : List UInt8) : Lib.strCells ⟨s.toArray⟩ = bytesV s := by simp [Lib.strCells, bytesV]
theorem Held.at_ {T e : TypeId} {b : Nat} {p v : Value} {s : List UInt8} {w : World} (h : Held T e b p v s w) : Lib.BuilderAtF T e 0 b p (bytesV s) w :=
  ⟨Nat.zero_le _, v, h.cells, by rw [bytesV_length]; exact h.own, h.ne⟩
theorem Held.lt {T e : TypeId} {b : Nat} {p v : Value} {s : List UInt8} {w : World} (h : Held T e b p v s w) : b < w.heap.size := (Array.getElem?_eq_some_iff.1 h.cells).1
theorem held_check (L : Lays.n240 P ρ) (X : Builder.X72 P ρ) {b : Nat} {p v : Value} {s : List UInt8} {w : World} (hp : p = .pointer none ∨ p = self b) (h : Held (ρ.t 72) (ρ.t 5) b p v s w) :
    Calls P (ρ.f 240) #[.pointer (some ⟨b, 0, none⟩)] w fun e w' => e = .returned (.tuple #[]) ∧ Held (ρ.t 72) (ρ.t 5) b (self b) v s w' ∧ Keeps (· = b) w w' := by
  rcases hp with rfl | rfl
  · refine (Any.Builder_copyCheck_fresh L X b w h.at_.cell0 h.at_.shape ?_).mono ?_
    · simp [World.frozen?, h.cells]
    · rintro e w' ⟨rfl, rfl⟩
      have hk : Keeps (· = b) w (w.setCell ⟨b, 0, none⟩ (.pointer (some ⟨b, 0, none⟩))) :=
        ⟨rfl, rfl, rfl, by simp [World.setCell], fun k _ hk => Below.heap_setCell _ _ _ _ (fun e => hk (by simp [e]))⟩
      refine ⟨rfl, ⟨?_, ?_, h.ne⟩, hk⟩
      · simp [World.setCell, Array.getElem?_modify, h.cells, self]
      · exact h.own.kept (row := some b) ⟨rfl, rfl, rfl, by simp [World.setCell], fun k _ hk => Below.heap_setCell _ _ _ _ (fun e => hk (by simp [e]))⟩ (.inr h.ne)
  · refine (Any.Builder_copyCheck_used L X b w h.at_.cell0).mono ?_
    rintro e w' ⟨rfl, rfl⟩
    exact ⟨rfl, h, Keeps.refl _ _⟩
theorem held_put {T e : TypeId} {b : Nat} {v v' : Value} {s s' : List UInt8} {w w1 w2 : World} (h1 : Held T e b (self b) v s w1) (hk : Keeps (· = b) w w1) (hg : w1.grownBy w2 v.ownBlock) (hTe : T ≠ e)
    (ho : w2.ownsRowF 0 e 1 v' s'.length (bytesV s')) :
    Held T e b (self b) v' s' (w2.setCell ⟨b, 1, none⟩ v') ∧ Keeps (fun k => k = b ∨ v.ownBlock = some k) w (w2.setCell ⟨b, 1, none⟩ v') := by
  have hb2 : w2.heap[b]? = some (.cells #[self b, v] T (0, 0)) := by
    rw [hg.block b h1.lt (fun e => h1.ne e.symm)]; exact h1.cells
  have hput : Lib.BuilderAtF T e 0 b (self b) (bytesV s') (w2.setCell ⟨b, 1, none⟩ v') :=
    Lib.BuilderAtF.put (Nat.zero_le _) hb2 (by rw [bytesV_length]; exact ho) hTe
  obtain ⟨_, u, q1, q2, q3⟩ := hput
  have hu : u = v' := by
    have : (w2.setCell ⟨b, 1, none⟩ v').heap[b]? = some (.cells #[self b, v'] T (0, 0)) := by simp [World.setCell, Array.getElem?_modify, hb2]
    rw [q1] at this
    simp only [Option.some.injEq, Obj.cells.injEq] at this
    have h := congrArg (·[1]?) this.1
    simpa using h
  subst hu
  refine ⟨⟨q1, by rw [bytesV_length] at q2; exact q2, q3⟩, ?_⟩
  have hs2 : (w2.setCell ⟨b, 1, none⟩ u).heap.size = w2.heap.size := by simp [World.setCell]
  refine ⟨hg.os.trans hk.os, hg.tape.trans hk.tape, hg.output.trans hk.output, by rw [hs2]; exact Nat.le_trans hk.size hg.size, fun k hlt hn => ?_⟩
  have h2 : (w2.setCell ⟨b, 1, none⟩ u).heap[k]? = w2.heap[k]? := Below.heap_setCell _ _ _ _ (fun e => hn (.inl (by simpa using e)))
  rw [h2, hg.block k (Nat.lt_of_lt_of_le hlt hk.size) (fun e => hn (.inr e.symm))]
  exact hk.block k hlt (fun e => hn (.inl e))
theorem run_app_str (w : World) (t u ty e : TypeId) (i : TypeInfo) (ht : P.underlying t = some (.slice e)) (hu : P.underlying u = some .string) (hi : P.info? e = some i) (hz : i.zero = some (.int .u8 0)) (hsize : i.size = 1) (hby : i.bytes = 1)
    (v : Value) (n : Nat) (xs : List Value) (hown : w.ownsRowF 0 e 1 v n xs) (s : ByteArray) (h63 : n + s.size ≤ maxLen) (hbytes : n + s.size ≤ 140737488355328) :
    ∃ v' w', (Builtin.append_ #[t, u] ty #[v, .string s]).run P w = .ok v' w' ∧ w'.ownsRowF 0 e 1 v' (n + s.size) (xs ++ Lib.strCells s) ∧ w.grownBy w' v.ownBlock ∧ (∀ g, v'.ownBlock = some g → v.ownBlock = some g ∨ w.heap.size ≤ g) := by
  have hown0 := hown
  rcases hown.2 with ⟨rfl, rfl⟩ | ⟨g, cap, cur, fz, rfl, hbg, hg, hfz, hnc, hcm, hcs, htake⟩
  · obtain ⟨v', w', hr, h2, h3, _⟩ := Lib.run_append_own_stringF (P := P) w w.heap.size t u ty e i ht hu hi hz hsize hby (.slice none 0 0) 0 xs ⟨hown.1, .inl ⟨rfl, rfl⟩⟩ s h63 hbytes (Nat.le_refl _)
    refine ⟨v', w', hr, ⟨h2.1, ?_⟩, h3, fun k hk => .inr (h2.lt k hk).1⟩
    rcases h2.2 with h4 | ⟨g, cap, cur, fz, q1, q2, q3⟩
    · exact .inl h4
    · exact .inr ⟨g, cap, cur, fz, q1, Nat.zero_le _, q3⟩
  · obtain ⟨v', w', hr, h2, h3, _⟩ := Lib.run_append_own_stringF (P := P) w 0 t u ty e i ht hu hi hz hsize hby (.slice (some ⟨g, 0, none⟩) n cap) n xs hown0 s h63 hbytes (Nat.zero_le _)
    refine ⟨v', w', hr, h2, h3, fun k hk => ?_⟩
    have hxl : xs.length = n := by simpa using hown.1
    have hsm : n + s.size ≤ 9223372036854775807 := by simp only [maxLen] at h63; omega
    by_cases hroom : n + s.size ≤ cap
    · have hr2 := Lib.run_append_room_stringF (P := P) w t u ty e i ht hu hi hsize g n cap cur fz hg (by simpa using hfz) s hroom (by rw [hcs]; omega)
      rw [hr] at hr2
      injection hr2 with e1 e2
      subst e1
      exact .inl hk
    · have hr2 := Lib.run_append_grow_string (P := P) w t u ty e i (.int .u8 0) ht hu hi hz ⟨g, 0, none⟩ n cap xs (by rw [hsize]; simpa using hxl) (hown.cells (g := g) rfl) s (by omega) (by omega) (by rw [hby]; exact growslice_fits (by omega) (by omega))
      rw [hr] at hr2
      injection hr2 with e1 e2
      subst e1
      simp only [Value.ownBlock, Option.some.injEq] at hk
      exact .inr (by rw [← hk]; exact Nat.le_refl _)
theorem run_app_row (w : World) (t ty e : TypeId) (i : TypeInfo) (z : Value) (ht : P.underlying t = some (.slice e)) (hi : P.info? e = some i) (hz : i.zero = some z) (hsize : i.size = 1) (hby : i.bytes = 1) (hzs : z.cells.size = 1)
    (v : Value) (n : Nat) (xs : List Value) (hown : w.ownsRowF 0 e 1 v n xs) (a : Addr) (m c : Nat) (news : List Value) (hl : news.length = m * 1) (hnews : ∀ j u, news[j]? = some u → w.cell? (a.add j) = some u) (h1 : ∀ u ∈ news, u.oneCell' = true)
    (h63 : n + m ≤ maxLen) (hbytes : (n + m) * 1 ≤ 140737488355328) :
    ∃ v' w', (Builtin.append_ #[t, t] ty #[v, .slice (some a) m c]).run P w = .ok v' w' ∧ w'.ownsRowF 0 e 1 v' (n + m) (xs ++ news) ∧ w.grownBy w' v.ownBlock ∧ (∀ g, v'.ownBlock = some g → v.ownBlock = some g ∨ w.heap.size ≤ g) := by
  have hown0 := hown
  rcases hown.2 with ⟨rfl, rfl⟩ | ⟨g, cap, cur, fz, rfl, hbg, hg, hfz, hnc, hcm, hcs, htake⟩
  · obtain ⟨v', w', hr, h2, h3, _⟩ := run_append_ownF (P := P) w w.heap.size t ty e i z 1 1 ht hi hz hsize hby hzs (by decide) (.slice none 0 0) 0 xs ⟨hown.1, .inl ⟨rfl, rfl⟩⟩ a m c news hl hnews h1 h63 hbytes (Nat.le_refl _)
    refine ⟨v', w', hr, ⟨h2.1, ?_⟩, h3, fun k hk => .inr (h2.lt k hk).1⟩
    rcases h2.2 with h4 | ⟨g, cap, cur, fz, q1, q2, q3⟩
    · exact .inl h4
    · exact .inr ⟨g, cap, cur, fz, q1, Nat.zero_le _, q3⟩
  · obtain ⟨v', w', hr, h2, h3, _⟩ := run_append_ownF (P := P) w 0 t ty e i z 1 1 ht hi hz hsize hby hzs (by decide) (.slice (some ⟨g, 0, none⟩) n cap) n xs hown0 a m c news hl hnews h1 h63 hbytes (Nat.zero_le _)
    refine ⟨v', w', hr, h2, h3, fun k hk => ?_⟩
    have hsm : n + m ≤ 9223372036854775807 := by simp only [maxLen] at h63; omega
    by_cases hroom : n + m ≤ cap
    · have hr2 := run_append_roomF (P := P) w t ty e i ht hi g n cap cur fz hg (by rw [hsize]; exact hfz) a m c news (by rw [hsize]; exact hl) hnews h1 hroom (by rw [hsize, hl, hcs]; omega)
      rw [hr] at hr2
      injection hr2 with e1 e2
      subst e1
      exact .inl hk
    · have hr2 := run_append_grow (P := P) w t ty e i z ht hi hz ⟨g, 0, none⟩ n cap xs (by rw [hsize]; exact hown.1) (hown.cells (g := g) rfl) a m c news (by rw [hsize]; exact hl) hnews (by omega) (by omega) (by rw [hby]; exact growslice_fits (by omega) hbytes)
      rw [hr] at hr2
      injection hr2 with e1 e2
      subst e1
      simp only [Value.ownBlock, Option.some.injEq] at hk
      exact .inr (by rw [← hk]; exact Nat.le_refl _)
theorem wp_app_str {ops : Array Oper} {rest : List Oper} {o : Oper} {a : Act} {Q : Exit → Act → World → Prop} {w : World} (hgd : o.guard = none) (sl x : Operand) (t u : TypeId) (ho : o.op = .call { callee := .builtin .append, args := #[sl, x], argTypes := #[t, u] })
    (e : TypeId) (i : TypeInfo) (ht : P.underlying t = some (.slice e)) (hu : P.underlying u = some .string) (hi : P.info? e = some i) (hz : i.zero = some (.int .u8 0)) (hsize : i.size = 1) (hby : i.bytes = 1)
    (v : Value) (n : Nat) (xs : List Value) (hs : a.eval sl = v) (hown : w.ownsRowF 0 e 1 v n xs) (s : ByteArray) (hx : a.eval x = .string s) (h63 : n + s.size ≤ maxLen) (hbytes : n + s.size ≤ 140737488355328)
    (h : ∀ v' w', w'.ownsRowF 0 e 1 v' (n + s.size) (xs ++ Lib.strCells s) → w.grownBy w' v.ownBlock → (∀ g, v'.ownBlock = some g → v.ownBlock = some g ∨ w.heap.size ≤ g) → wpList P ops Q rest (a.put o.dst v') w') : wpList P ops Q (o :: rest) a w := by
  refine wpList_plain hgd fun K hK => ?_
  obtain ⟨v', w', hr, h2, h3, h4⟩ := run_app_str (P := P) w t u o.type e i ht hu hi hz hsize hby v n xs hown s h63 hbytes
  unfold Oper.wp execOp
  simp only [ho, resolve, invoke, builtin, Sem.run_bind, Sem.run_pure, Result.andThen_ok, List.map_toArray, List.map_cons, List.map_nil, hs, hx, hr]
  exact hK _ _ (h v' w' h2 h3 h4)
theorem wp_app_row {ops : Array Oper} {rest : List Oper} {o : Oper} {a : Act} {Q : Exit → Act → World → Prop} {w : World} (hgd : o.guard = none) (sl x : Operand) (t : TypeId) (ho : o.op = .call { callee := .builtin .append, args := #[sl, x], argTypes := #[t, t] })
    (e : TypeId) (i : TypeInfo) (z : Value) (ht : P.underlying t = some (.slice e)) (hi : P.info? e = some i) (hz : i.zero = some z) (hsize : i.size = 1) (hby : i.bytes = 1) (hzs : z.cells.size = 1)
    (v : Value) (n : Nat) (xs : List Value) (hs : a.eval sl = v) (hown : w.ownsRowF 0 e 1 v n xs) (ad : Addr) (m c : Nat) (news : List Value) (hx : a.eval x = .slice (some ad) m c) (hl : news.length = m * 1) (hnews : ∀ j u, news[j]? = some u → w.cell? (ad.add j) = some u)
    (h1 : ∀ u ∈ news, u.oneCell' = true) (h63 : n + m ≤ maxLen) (hbytes : (n + m) * 1 ≤ 140737488355328)
    (h : ∀ v' w', w'.ownsRowF 0 e 1 v' (n + m) (xs ++ news) → w.grownBy w' v.ownBlock → (∀ g, v'.ownBlock = some g → v.ownBlock = some g ∨ w.heap.size ≤ g) → wpList P ops Q rest (a.put o.dst v') w') : wpList P ops Q (o :: rest) a w := by
  refine wpList_plain hgd fun K hK => ?_
  obtain ⟨v', w', hr, h2, h3, h4⟩ := run_app_row (P := P) w t o.type e i z ht hi hz hsize hby hzs v n xs hown ad m c news hl hnews h1 h63 hbytes
  unfold Oper.wp execOp
  simp only [ho, resolve, invoke, builtin, Sem.run_bind, Sem.run_pure, Result.andThen_ok, List.map_toArray, List.map_cons, List.map_nil, hs, hx, hr]
  exact hK _ _ (h v' w' h2 h3 h4)
set_option maxHeartbeats 2000000 in
set_option maxRecDepth 100000 in
theorem held_string (L : Lays.n166 P ρ) (X : Builder.Extra P ρ) {b : Nat} {p v : Value} {s : List UInt8} {w : World} (hp : p = .pointer none ∨ p = self b) (h : Held (ρ.t 72) (ρ.t 5) b p v s w) (x : List UInt8)
    (hlen : s.length + x.length ≤ 140737488355328) :
    Calls P (ρ.f 166) #[.pointer (some ⟨b, 0, none⟩), .string ⟨x.toArray⟩] w fun e w' => e = .returned (.tuple #[.int .i64 x.length, .nilIface]) ∧
      ∃ v', Held (ρ.t 72) (ρ.t 5) b (self b) v' (s ++ x) w' ∧ Keeps (fun k => k = b ∨ v.ownBlock = some k) w w' ∧ (∀ g, v'.ownBlock = some g → v.ownBlock = some g ∨ w.heap.size ≤ g) := by
  obtain ⟨i0, hi, hz0, hz1, hz2⟩ := info_parts X.infoByte
  have mixed := L.mixed
  have t72 := L.t72; have a72 := L.a72; have z72 := L.z72; have v72 := L.v72; have u72 := run_underlying L.t72
  have t70 := L.t70; have a70 := L.a70; have z70 := L.z70; have v70 := L.v70; have u70 := run_underlying L.t70
  have t37 := L.t37; have a37 := L.a37; have z37 := L.z37; have v37 := L.v37; have u37 := run_underlying L.t37
  have t3 := L.t3; have a3 := L.a3; have z3 := L.z3; have v3 := L.v3; have u3 := run_underlying L.t3
  have t9 := L.t9; have a9 := L.a9; have z9 := L.z9; have v9 := L.v9; have u9 := run_underlying L.t9
  have t5 := X.t5; have a5 := X.a5; have z5 := X.z5; have v5 := X.v5; have u5 := run_underlying X.t5
  have e240 : ∀ args w, (callFunc (ρ.f 240) args).run P w = .ok (.enter (ρ.f 240) args) w := enters_of L.f240 (by kernel_rfl) rfl
  go_enter L.f166, Body.n166_ntmps ρ
  go_wp2_with (go_at_fn (ρ.f 240); refine (held_check { L with } X.toX72 hp h).mono ?_)
  rintro e w1 ⟨rfl, h1, hk1⟩
  have c0 : w1.cell? ⟨b, 0, none⟩ = some (self b) := by rw [Lib.cell_of_heap h1.cells]; rfl
  have c1 : w1.cell? ⟨b, 1, none⟩ = some v := by rw [Lib.cell_of_heap h1.cells]; rfl
  go_wp2_with (at_builtin; refine wp_app_str rfl _ _ (ρ.t 37) (ρ.t 9) rfl (ρ.t 5) i0 L.t37 L.t9 hi hz0 hz1 hz2 _ _ _ rfl h1.own ⟨x.toArray⟩ rfl ?k1 ?k2 ?_)
  case k1 => unfold maxLen; show _ + x.toArray.size ≤ _; rw [List.size_toArray]; omega
  case k2 => show _ + x.toArray.size ≤ _; rw [List.size_toArray]; omega
  intro v' w2 ho' hgrow hold
  have ho2 : w2.ownsRowF 0 (ρ.t 5) 1 v' (s ++ x).length (bytesV (s ++ x)) := by
    have := ho'
    rw [strCells_bytes] at this
    simpa [bytesV] using this
  obtain ⟨r1, r2⟩ := held_put h1 hk1 hgrow X.neB5 ho2
  have hb2 : w2.heap[b]? = some (.cells #[self b, v] (ρ.t 72) (0, 0)) := by
    rw [hgrow.block b h1.lt (fun e => h1.ne e.symm)]; exact h1.cells
  have d0 : w2.cell? ⟨b, 0, none⟩ = some (self b) := by rw [Lib.cell_of_heap hb2]; rfl
  have d1 : w2.cell? ⟨b, 1, none⟩ = some v := by rw [Lib.cell_of_heap hb2]; rfl
  have f1 : w2.frozen? ⟨b, 1, none⟩ = false := Lib.frozen_of_heap hb2 1
  obtain ⟨ao, n', cap, rfl⟩ : ∃ ao n' cap, v' = .slice ao n' cap := by
    rcases ho'.2 with ⟨hv, _⟩ | ⟨g, cap, cur, fz, hv, _⟩
    · exact ⟨_, _, _, hv⟩
    · exact ⟨_, _, _, hv⟩
  go_wp2
  go_ret2
  refine ⟨?_, _, r1, r2, fun g hg => ?_⟩
  · rfl
  · exact (hold g hg).imp id fun h5 => Nat.le_trans hk1.size h5
theorem freeze_keep (w : World) (g : Nat) {n : Nat} (hn : n ≠ 0) : Keeps (fun k => k = g) w (w.freeze ⟨g, 0, none⟩ n) := by
  unfold World.freeze
  rw [if_neg hn]
  exact ⟨rfl, rfl, rfl, by simp, fun k _ hk => by simp [Array.getElem?_modify, Ne.symm hk]⟩
theorem Held.alloc {T e : TypeId} {b : Nat} {p v : Value} {s : List UInt8} {w : World} (h : Held T e b p v s w) (o : Obj) : Held T e b p v s (w.alloc o) :=
  ⟨by rw [Lib.alloc_old w o b h.lt]; exact h.cells, h.own.alloc o, h.ne⟩
set_option maxHeartbeats 2000000 in
set_option maxRecDepth 100000 in
theorem held_byte (L : Lays.n167 P ρ) (X : Builder.Extra P ρ) {b : Nat} {p v : Value} {s : List UInt8} {w : World} (hp : p = .pointer none ∨ p = self b) (h : Held (ρ.t 72) (ρ.t 5) b p v s w) (x : UInt8)
    (hlen : s.length + 1 ≤ 140737488355328) :
    Calls P (ρ.f 167) #[.pointer (some ⟨b, 0, none⟩), .int .u8 x.toNat] w fun e w' => e = .returned .nilIface ∧
      ∃ v', Held (ρ.t 72) (ρ.t 5) b (self b) v' (s ++ [x]) w' ∧ Keeps (fun k => k = b ∨ v.ownBlock = some k) w w' ∧ (∀ g, v'.ownBlock = some g → v.ownBlock = some g ∨ w.heap.size ≤ g) := by
  obtain ⟨i0, hi, hz0, hz1, hz2⟩ := info_parts X.infoByte
  have mixed := L.mixed
  have t72 := L.t72; have a72 := L.a72; have z72 := L.z72; have v72 := L.v72; have u72 := run_underlying L.t72
  have t70 := L.t70; have a70 := L.a70; have z70 := L.z70; have v70 := L.v70; have u70 := run_underlying L.t70
  have t5 := L.t5; have a5 := L.a5; have z5 := L.z5; have v5 := L.v5; have u5 := run_underlying L.t5
  have t37 := L.t37; have a37 := L.a37; have z37 := L.z37; have v37 := L.v37; have u37 := run_underlying L.t37
  have e240 : ∀ args w, (callFunc (ρ.f 240) args).run P w = .ok (.enter (ρ.f 240) args) w := enters_of L.f240 (by kernel_rfl) rfl
  go_enter L.f167, Body.n167_ntmps ρ
  go_wp2_with (go_at_fn (ρ.f 240); refine (held_check { L with } X.toX72 hp h).mono ?_)
  rintro e w1 ⟨rfl, h1, hk1⟩
  have c0 : w1.cell? ⟨b, 0, none⟩ = some (self b) := by rw [Lib.cell_of_heap h1.cells]; rfl
  have c1 : w1.cell? ⟨b, 1, none⟩ = some v := by rw [Lib.cell_of_heap h1.cells]; rfl
  go_wp2_with (at_builtin; refine wp_app_row rfl _ _ (ρ.t 37) rfl (ρ.t 5) i0 (.int .u8 0) L.t37 hi hz0 hz1 hz2 rfl _ _ _ rfl (h1.own.alloc _) ⟨w1.heap.size, 0, none⟩ 1 1 [.int .u8 x.toNat] rfl rfl ?k1 ?k2 ?k3 ?k4 ?_)
  case k1 =>
    intro j u hj
    match j, hj with
    | 0, hj => simp at hj; subst hj; simp [Addr.add]
  case k2 => intro u hu; simp at hu; subst hu; rfl
  case k3 => unfold maxLen; omega
  case k4 => omega
  intro v' w2 ho' hgrow hold
  have ho2 : w2.ownsRowF 0 (ρ.t 5) 1 v' (s ++ [x]).length (bytesV (s ++ [x])) := by simpa [bytesV] using ho'
  obtain ⟨r1, r2⟩ := held_put (h1.alloc _) (hk1.trans (Keeps.alloc _ _ _)) hgrow X.neB5 ho2
  have hb2 : w2.heap[b]? = some (.cells #[self b, v] (ρ.t 72) (0, 0)) := by
    rw [hgrow.block b (h1.alloc _).lt (fun e => h1.ne e.symm)]; exact (h1.alloc _).cells
  have d0 : w2.cell? ⟨b, 0, none⟩ = some (self b) := by rw [Lib.cell_of_heap hb2]; rfl
  have d1 : w2.cell? ⟨b, 1, none⟩ = some v := by rw [Lib.cell_of_heap hb2]; rfl
  have f1 : w2.frozen? ⟨b, 1, none⟩ = false := Lib.frozen_of_heap hb2 1
  obtain ⟨ao, n', cap, rfl⟩ : ∃ ao n' cap, v' = .slice ao n' cap := by
    rcases ho'.2 with ⟨hv, _⟩ | ⟨g, cap, cur, fz, hv, _⟩
    · exact ⟨_, _, _, hv⟩
    · exact ⟨_, _, _, hv⟩
  go_wp2
  go_ret
  refine ⟨rfl, _, r1, r2, fun g hg => ?_⟩
  refine (hold g hg).imp id fun h5 => Nat.le_trans hk1.size (Nat.le_trans ?_ h5)
  simp
set_option maxHeartbeats 2000000 in
set_option maxRecDepth 100000 in
theorem held_text (L : Lays.n169 P ρ) (X : Builder.Extra P ρ) {b : Nat} {p v : Value} {s : List UInt8} {w : World} (h : Held (ρ.t 72) (ρ.t 5) b p v s w) (h0 : s ≠ []) :
    Calls P (ρ.f 169) #[.pointer (some ⟨b, 0, none⟩)] w fun e w' => e = .returned (.string ⟨s.toArray⟩) ∧ Held (ρ.t 72) (ρ.t 5) b p v s w' ∧ Keeps (fun k => k = b ∨ v.ownBlock = some k) w w' := by
  have hl0 : s.length ≠ 0 := by simpa using h0
  obtain ⟨g, cap, cur, fz, hv, _, hg, hfz, hnc, hcm, hcs, htake⟩ : ∃ g cap cur fz, v = .slice (some ⟨g, 0, none⟩) s.length cap ∧ 0 ≤ g ∧ w.heap[g]? = some (.cells cur (ρ.t 5) fz) ∧ fz.2 ≤ s.length * 1 ∧ s.length ≤ cap ∧ cap ≤ maxLen ∧ cur.size = cap * 1 ∧ cur.toList.take (s.length * 1) = bytesV s := by
    rcases h.own.2 with ⟨_, hz⟩ | ⟨g, cap, cur, fz, hv, r⟩
    · exact absurd hz hl0
    · exact ⟨g, cap, cur, fz, hv, r⟩
  have hgb : g ≠ b := fun e => h.ne (by rw [hv, e]; rfl)
  have c1 : w.drew.cell? ⟨b, 1, none⟩ = some (.slice (some ⟨g, 0, none⟩) s.length cap) := by
    have : w.drew.heap[b]? = some (.cells #[p, v] (ρ.t 72) (0, 0)) := h.cells
    rw [Lib.cell_of_heap this, hv]; rfl
  have hSD : (Builtin.unsafeSliceData_ #[(ρ.t 37)] (ρ.t 127) #[.slice (some ⟨g, 0, none⟩) s.length cap]).run P w.drew = .ok (.pointer (some ⟨g, 0, none⟩)) w.drew :=
    Lib.run_unsafeSliceData_row _ _ _ _ _ _ (by omega)
  have hUS : (Builtin.unsafeString_ #[(ρ.t 127), (ρ.t 3)] (ρ.t 9) #[.pointer (some ⟨g, 0, none⟩), .int .i64 s.length]).run P w.drew = .ok (.string ⟨s.toArray⟩) (w.drew.freeze ⟨g, 0, none⟩ s.length) := by
    refine Lib.run_unsafeString_row w.drew (ρ.t 127) (ρ.t 3) (ρ.t 9) (ρ.t 5) L.t127 X.cellsByte g cur.size (by have hg' : w.drew.heap[g]? = some (.cells cur (ρ.t 5) fz) := hg; simp [World.shape?, hg']) s h0 (by omega) (by unfold maxLen at hcm; omega) ?_
    intro j x hx
    have := h.own.cells (g := g) (by rw [hv]; rfl) j (.int .u8 x.toNat) (by simp [bytesV, hx])
    exact this
  have hkeep : Held (ρ.t 72) (ρ.t 5) b p v s (w.drew.freeze ⟨g, 0, none⟩ s.length) := by
    have hA : Lib.BuilderAtF (ρ.t 72) (ρ.t 5) 0 b p (bytesV s) w.drew := h.at_
    have hF := hA.froze (g := g) (cap := cap) (by rw [bytesV_length]; exact c1)
    rw [bytesV_length] at hF
    obtain ⟨_, u, q1, q2, q3⟩ := hF
    have hu : u = v := by
      have hk2 : (w.drew.freeze ⟨g, 0, none⟩ s.length).heap[b]? = some (.cells #[p, v] (ρ.t 72) (0, 0)) := by
        rw [show (w.drew.freeze ⟨g, 0, none⟩ s.length).heap[b]? = w.heap[b]? from (freeze_keep w.drew g hl0).block b h.lt (Ne.symm hgb)]; exact h.cells
      rw [q1] at hk2
      simp only [Option.some.injEq, Obj.cells.injEq] at hk2
      have h := congrArg (·[1]?) hk2.1
      simpa using h
    subst hu
    exact ⟨q1, by rw [bytesV_length] at q2; exact q2, q3⟩
  have hks : Keeps (fun k => k = b ∨ v.ownBlock = some k) w (w.drew.freeze ⟨g, 0, none⟩ s.length) :=
    ((Keeps.drew (fun k => k = g) w).trans (freeze_keep w.drew g hl0)).mono fun k _ e => .inr (by rw [hv, e]; rfl)
  have mixed := L.mixed
  have t72 := L.t72; have a72 := L.a72; have z72 := L.z72; have v72 := L.v72; have u72 := run_underlying L.t72
  have t70 := L.t70; have a70 := L.a70; have z70 := L.z70; have v70 := L.v70; have u70 := run_underlying L.t70
  have t37 := L.t37; have a37 := L.a37; have z37 := L.z37; have v37 := L.v37; have u37 := run_underlying L.t37
  have t127 := L.t127; have a127 := L.a127; have z127 := L.z127; have v127 := L.v127; have u127 := run_underlying L.t127
  have t3 := L.t3; have a3 := L.a3; have z3 := L.z3; have v3 := L.v3; have u3 := run_underlying L.t3
  have t9 := L.t9; have a9 := L.a9; have z9 := L.z9; have v9 := L.v9; have u9 := run_underlying L.t9
  have t5 := X.t5; have a5 := X.a5; have z5 := X.z5; have v5 := X.v5; have u5 := run_underlying X.t5
  go_enter L.f169, Body.n169_ntmps ρ
  go_wp2
  go_region_o
  all_goals (go_wp2; go_ret; exact ⟨rfl, hkeep, hks⟩)
end Pv
end Go.Proofs.YtcfcmafmdpbjoaaDoor
/- THE LIBRARY's functions on texts: general forms of their contracts in the words of pure calls. -/
set_option linter.unusedSimpArgs false
set_option linter.unusedVariables false
namespace Go.Proofs.YtcfcmafmdpbjoaaDoor
namespace Pv
open Go.RowKit
theorem ownsF_lt {w : World} {e z n : Nat} {v : Value} {vs : List Value} (h : w.ownsRowF 0 e z v n vs) : ∀ b, v.ownBlock = some b → b < w.heap.size := fun b hb => by
  rcases h.2 with ⟨h0, _⟩ | ⟨g, cap, cur, fz, h0, _, h2, _⟩
  · subst h0; cases hb
  · subst h0; injection hb with hb; subst hb
    exact (Array.getElem?_eq_some_iff.1 h2).1
theorem pure_bld {P : Program} {f T e : Nat} {args : List PV} {us : List Value} {val : PV} {rv : Value} {s s' : List UInt8}
    (hfn : ∃ fn, P.funcs[f]? = some fn ∧ fn.body.isSome = true ∧ (fn.name == "runtime.NumGoroutine") = false)
    (hargs : ∀ (X : Cx) (γ : Gh) (w : World) (vals : List Value), RepL X γ w args vals → vals = us) (hval : ∀ (X : Cx) (γ : Gh) (w : World), Rep X γ w val rv)
    (h : ∀ (w : World) (b : Nat) (p v : Value), (p = .pointer none ∨ p = self b) → Held T e b p v s w →
      Calls P f (self b :: us).toArray w fun ev w' => ev = .returned rv ∧ ∃ p' v', (p' = .pointer none ∨ p' = self b) ∧ Held T e b p' v' s' w' ∧ Keeps (fun k => k = b ∨ v.ownBlock = some k) w w' ∧ (∀ g, v'.ownBlock = some g → v.ownBlock = some g ∨ w.heap.size ≤ g)) :
    PureCall P f (.pt 0 0 0 :: args) [.bld T e s] ⟨val, [.bld T e s'], []⟩ := by
  refine ⟨hfn, fun w γ as_ ls vals hst hX hr => ?_⟩
  obtain ⟨v0, us', rfl, hv, hus⟩ := hr.cons_inv
  have := hargs _ _ _ _ hus
  subst this
  obtain ⟨ge, b, hge, hgb, rfl⟩ := pt_inv hv
  obtain ⟨b', p, v, g1, g2, g3, g4, g5, g6⟩ := hst.at_ 0 ge (.bld T e s) hge rfl
  have hb : b' = b := by rw [g1] at hgb; injection hgb
  subst hb
  have hheld : Held T e b' p v s w := ⟨g4, g5, g6⟩
  have hself : Value.pointer (some ⟨b', 0 * ge.z + 0, none⟩) = self b' := by rw [Nat.zero_mul]; rfl
  rw [hself]
  refine (h w b' p v g3 hheld).mono ?_
  rintro ev w' ⟨he, p', v', hp', hH, hk, hold⟩
  have hnone : ∀ r, r ≠ 0 → γ r = none := fun r hr => by
    have := hst.dom r
    rw [List.getElem?_eq_none (by simp; omega)] at this
    simpa using this
  have hblt : b' < w.heap.size := hheld.lt
  let ge' : GE := ⟨some b', v', ge.z⟩
  have hhas : ∀ k, ge'.has k → ge.has k ∨ w.heap.size ≤ k := fun k hk => by
    rcases hk with hk | hk
    · exact .inl (.inl (by injection hk with hk; rw [← hk]; exact g1))
    · exact (hold k hk).imp (fun h => .inr (by rw [g2]; exact h)) id
  have hown : ∀ k, ge.has k → γ.own k := fun k hk => ⟨0, ge, hge, hk⟩
  have hown' : ∀ k, Gh.own (fun r => if r = 0 then some ge' else none) k → γ.own k ∨ w.heap.size ≤ k := fun k ⟨r, g, hr, hb⟩ => by
    by_cases h0 : r = 0
    · simp only [h0, if_true, Option.some.injEq] at hr
      subst hr
      exact (hhas k hb).imp (hown k) id
    · simp only [h0, if_false] at hr; cases hr
  have hkeep : Keeps γ.own w w' := hk.mono fun k _ hk => by
    rcases hk with rfl | hk
    · exact hown _ (.inl g1)
    · exact hown _ (.inr (by rw [g2]; exact hk))
  refine ⟨rv, fun r => if r = 0 then some ge' else none, he, hval _ _ _, ?_, hkeep, fun r hr => ?_, fun r g k hr hb => ?_⟩
  · refine ⟨fun r => ?_, fun r g se hr hs => ?_, fun r r' g g' k hr hr' _ _ => ?_, fun k hk => ?_, fun k ⟨r, g, hr, hb⟩ => ?_, ?_⟩
    rotate_right
    · exact glob_keep hst.glob (fun k hlt hn => hkeep.block k hlt hn) hown'
    · by_cases h : r = 0
      · subst h; rfl
      · simp only [h, if_false, resSt]
        by_cases h2 : newBase ≤ r
        · rw [if_pos h2]; rfl
        · rw [if_neg h2, List.getElem?_eq_none (by simp; omega)]; rfl
    · by_cases h : r = 0
      · subst h
        simp only [if_true, Option.some.injEq] at hr
        subst hr
        have hs' : some (SE.bld T e s') = some se := hs
        injection hs' with hs'
        subst hs'
        exact ⟨b', p', v', rfl, rfl, hp', hH.cells, hH.own, hH.ne⟩
      · simp only [h, if_false] at hr; cases hr
    · by_cases h : r = 0
      · by_cases h' : r' = 0
        · rw [h, h']
        · simp only [h', if_false] at hr'; cases hr'
      · simp only [h, if_false] at hr; cases hr
    · rcases hown' k hk with h | h
      · exact hst.asOff k h
      · exact ⟨fun ha => by have := hX k (.inl ha); omega, fun ha => by have := hX k (.inr ha); omega⟩
    · by_cases h : r = 0
      · simp only [h, if_true, Option.some.injEq] at hr
        subst hr
        rcases hb with hb | hb
        · injection hb with hb; rw [← hb]; exact hH.lt
        · exact ownsF_lt hH.own k hb
      · simp only [h, if_false] at hr; cases hr
  · have h0 : r = 0 := by simp [nbx] at hr; exact hr
    subst h0
    exact ⟨ge', ge, rfl, hge, g1.symm, rfl⟩
  · by_cases h : r = 0
    · simp only [h, if_true, Option.some.injEq] at hr
      subst hr
      rcases hhas k hb with h1 | h1
      · exact .inr (.inr ⟨ge, by rw [h]; exact hge, h1⟩)
      · exact .inl h1
    · simp only [h, if_false] at hr; cases hr
theorem pure_still {P : Program} {f : Nat} {args : List PV} {us : List Value} {val : PV} {rv : Value}
    (hfn : ∃ fn, P.funcs[f]? = some fn ∧ fn.body.isSome = true ∧ (fn.name == "runtime.NumGoroutine") = false)
    (hargs : ∀ (X : Cx) (γ : Gh) (w : World) (vals : List Value), RepL X γ w args vals → vals = us) (hval : ∀ (X : Cx) (γ : Gh) (w : World), Rep X γ w val rv)
    (h : ∀ (w : World), (∀ b p, Pv.glob b = some p → ∃ o, w.heap[b]? = some o ∧ p o) → Calls P f us.toArray w fun ev w' => ev = .returned rv ∧ Keeps (fun _ => False) w w') :
    PureCall P f args [] ⟨val, [], []⟩ := by
  refine ⟨hfn, fun w γ as_ ls vals hst hX hr => ?_⟩
  have := hargs _ _ _ _ hr
  subst this
  refine (h w fun b p hb => (hst.glob b p hb).1).mono ?_
  rintro ev w' ⟨he, hk⟩
  have hnone : ∀ r, γ r = none := fun r => by
    have := hst.dom r
    simpa using this
  have hno : ∀ b, ¬ γ.own b := fun b ⟨r, ge, hr, _⟩ => by rw [hnone r] at hr; cases hr
  have hkeep : Keeps γ.own w w' := hk.mono fun k _ h => h.elim
  refine ⟨rv, γ, he, hval _ _ _, ?_, hkeep, fun r hr => by simp [nbx] at hr, fun r ge b hr hb => by rw [hnone r] at hr; cases hr⟩
  refine ⟨fun r => ?_, fun r ge se hr hs => (by rw [hnone r] at hr; cases hr), fun r r' ge ge' b hr => (by rw [hnone r] at hr; cases hr), fun b hb => absurd hb (hno b), fun b hb => absurd hb (hno b), ?_⟩
  · rw [hnone r]; unfold resSt
    split <;> rfl
  · exact glob_keep hst.glob (fun k hlt hn => hkeep.block k hlt hn) fun b hb => .inl hb
theorem pure_new2 {P : Program} {f : Nat} {args : List PV} {us : List Value} {e z n : Nat} {g : Nat → List PV} {vs : List Value}
    (hfn : ∃ fn, P.funcs[f]? = some fn ∧ fn.body.isSome = true ∧ (fn.name == "runtime.NumGoroutine") = false)
    (hargs : ∀ (X : Cx) (γ : Gh) (w : World) (vals : List Value), RepL X γ w args vals → vals = us) (hrows : ∀ (X : Cx) (γ : Gh) (w : World), RowsRep X γ w 0 z n g vs)
    (h : ∀ (w : World), (∀ b p, Pv.glob b = some p → ∃ o, w.heap[b]? = some o ∧ p o) →
      Calls P f us.toArray w fun ev w' => ∃ v', ev = .returned v' ∧ w'.ownsRow w.heap.size e z v' n vs ∧ Keeps (fun _ => False) w w') :
    PureCall P f args [] ⟨.os 1000000000, [], [.row 0 e z n g]⟩ := by
  refine ⟨hfn, fun w γ as_ ls vals hst hX hr => ?_⟩
  have := hargs _ _ _ _ hr
  subst this
  refine (h w fun b p hb => (hst.glob b p hb).1).mono ?_
  rintro ev w' ⟨v', he, ho, hk⟩
  have ho0 : OwnsG w' e z v' n vs := OwnsG_of ho
  have hone : v'.oneCell' = true := slice_one ho0
  have hblk : ∀ b, v'.ownBlock = some b → w.heap.size ≤ b ∧ b < w'.heap.size := fun b hb => by
    refine ⟨?_, own_lt' ho0 b hb⟩
    rcases ho.2 with ⟨h0, _⟩ | ⟨g, cap, cur, h0, h1, _⟩
    · subst h0; cases hb
    · subst h0; injection hb with hb; subst hb; exact h1
  have hnone : ∀ r, γ r = none := fun r => by
    have := hst.dom r
    simpa using this
  refine ⟨v', fun r => if r = 1000000000 then some ⟨v'.ownBlock, v', z⟩ else none, he, .os _ ⟨v'.ownBlock, v', z⟩ (by simp) hone rfl, ?_, ⟨hk.os, hk.tape, hk.output, hk.size, fun b hb _ => hk.block b hb (fun h => h)⟩, fun r hr => by simp [nbx] at hr, fun r ge b hr hb => ?_⟩
  · refine ⟨fun r => ?_, fun r ge se hr hs => ?_, fun r r' ge ge' b hr hr' _ _ => ?_, fun b ⟨r, ge, hr, hb⟩ => ?_, fun b ⟨r, ge, hr, hb⟩ => ?_, ?_⟩
    rotate_right
    · refine glob_keep hst.glob (fun b hlt _ => hk.block b hlt (fun h => h)) (fun b ⟨r, ge, hr, hb⟩ => ?_)
      by_cases h : r = 1000000000
      · simp only [h, if_true, Option.some.injEq] at hr
        subst hr
        exact .inr (hblk b ((GE.has_row rfl).1 hb)).1
      · simp only [h, if_false] at hr; cases hr
    · by_cases h : r = 1000000000
      · subst h; simp [resSt, newBase]
      · simp only [h, if_false, resSt]
        by_cases h2 : newBase ≤ r
        · have : 1 ≤ r - newBase := by unfold newBase at *; omega
          rw [if_pos h2, List.getElem?_eq_none (by simpa using this)]; rfl
        · rw [if_neg h2]; simp
    · by_cases h : r = 1000000000
      · subst h
        simp only [if_true, Option.some.injEq] at hr
        subst hr
        simp [resSt, newBase] at hs
        subst hs
        exact (hrows _ _ _).repS rfl rfl hone ho0
      · simp only [h, if_false] at hr; cases hr
    · by_cases h : r = 1000000000
      · by_cases h' : r' = 1000000000
        · rw [h, h']
        · simp only [h', if_false] at hr'; cases hr'
      · simp only [h, if_false] at hr; cases hr
    · by_cases h : r = 1000000000
      · simp only [h, if_true, Option.some.injEq] at hr
        subst hr
        have := (hblk b ((GE.has_row rfl).1 hb)).1
        exact ⟨fun ha => by have := hX b (.inl ha); omega, fun ha => by have := hX b (.inr ha); omega⟩
      · simp only [h, if_false] at hr; cases hr
    · by_cases h : r = 1000000000
      · simp only [h, if_true, Option.some.injEq] at hr
        subst hr
        exact (hblk b ((GE.has_row rfl).1 hb)).2
      · simp only [h, if_false] at hr; cases hr
  · by_cases h : r = 1000000000
    · simp only [h, if_true, Option.some.injEq] at hr
      subst hr
      exact .inl (hblk b ((GE.has_row rfl).1 hb)).1
    · simp only [h, if_false] at hr; cases hr
/-! ## texts in a slice -/
def eStr (s : List UInt8) : List PV := [.str s]
def strV (s : List UInt8) : Value := .string ⟨s.toArray⟩
theorem strs_rows {X : Cx} {γ : Gh} {w : World} (l : List (List UInt8)) : RowsRep X γ w 0 1 l.length (fl eStr l) (l.map strV) := by
  refine ⟨by simp, fun u hu => ?_, fun i hi => rfl, fun i hi c hc => ?_, fun i j c u hi hc hu => ?_⟩
  · obtain ⟨n, _, rfl⟩ := List.mem_map.1 hu; rfl
  · have : c = .str (l.getD i default) := by simpa [fl, eStr] using hc
    subst this; rfl
  · have hj : j = 0 := by
      have := (List.getElem?_eq_some_iff.1 hc).1
      simp [fl, eStr] at this; omega
    subst hj
    have : c = .str (l.getD i default) := by
      have h0 : some (PV.str (l.getD i default)) = some c := hc
      injection h0 with h0; exact h0.symm
    subst this
    rw [Nat.mul_one, Nat.add_zero, List.getElem?_map, getD_some hi] at hu
    injection hu with hu; subst hu
    exact .str _
end Pv
end Go.Proofs.YtcfcmafmdpbjoaaDoor
/- PLAIN: texts cut at a byte. -/
set_option linter.unusedSimpArgs false
set_option linter.unusedVariables false
namespace Go.Proofs.YtcfcmafmdpbjoaaDoor
namespace Pv
def splitC (c : UInt8) : List UInt8 → List (List UInt8)
  | [] => [[]]
  | x :: xs => if x = c then [] :: splitC c xs else match splitC c xs with
    | [] => [[x]]
    | h :: t => (x :: h) :: t
def brkC (c : UInt8) : List UInt8 → List UInt8 × List UInt8 × Bool
  | [] => ([], [], false)
  | x :: xs => if x = c then ([], xs, true) else (x :: (brkC c xs).1, (brkC c xs).2)
theorem splitC_ne (c : UInt8) (s : List UInt8) : splitC c s ≠ [] := by
  cases s with
  | nil => simp [splitC]
  | cons x xs =>
    unfold splitC
    split
    · simp
    · split <;> simp
theorem splitC_brk (c : UInt8) : ∀ s : List UInt8, splitC c s = if (brkC c s).2.2 = true then (brkC c s).1 :: splitC c (brkC c s).2.1 else [s]
  | [] => rfl
  | x :: xs => by
    by_cases h : x = c
    · simp [splitC, brkC, h]
    · have ih := splitC_brk c xs
      simp only [splitC, brkC, if_neg h]
      by_cases h2 : (brkC c xs).2.2 = true
      · rw [if_pos h2] at ih ⊢
        rw [ih]
      · rw [if_neg h2] at ih ⊢
        rw [ih]
theorem brkC_len (c : UInt8) : ∀ s : List UInt8, (brkC c s).1.length ≤ s.length ∧ (brkC c s).2.1.length ≤ s.length ∧ ((brkC c s).2.2 = true → (brkC c s).1.length + 1 + (brkC c s).2.1.length = s.length)
  | [] => by simp [brkC]
  | x :: xs => by
    have ih := brkC_len c xs
    unfold brkC
    split
    · simp; omega
    · simp only [List.length_cons]
      refine ⟨by omega, by omega, fun h => ?_⟩
      have := ih.2.2 h
      omega
theorem splitC_len (c : UInt8) : ∀ s : List UInt8, (splitC c s).length ≤ s.length + 1 ∧ ∀ x ∈ splitC c s, x.length ≤ s.length
  | [] => by simp [splitC]
  | x :: xs => by
    have ih := splitC_len c xs
    unfold splitC
    split
    · refine ⟨by simp; omega, fun y hy => ?_⟩
      rcases List.mem_cons.1 hy with rfl | hy
      · simp
      · have := ih.2 y hy; simp; omega
    · split
      · simp
      · rename_i h t e
        rw [e] at ih
        refine ⟨by simp at ih ⊢; omega, fun y hy => ?_⟩
        rcases List.mem_cons.1 hy with rfl | hy
        · have := ih.2 h (by simp); simp; omega
        · have := ih.2 y (by simp [hy]); simp; omega
theorem index_cons_eq (c : UInt8) (l : List UInt8) : Lib.index (c :: l) [c] = 0 := by rw [Lib.index]; simp [List.isPrefixOf]
theorem index_cons_ne (b c : UInt8) (l : List UInt8) (h : b ≠ c) : Lib.index (b :: l) [c] = if Lib.index l [c] == -1 then -1 else Lib.index l [c] + 1 := by
  have hp : ([c] : List UInt8).isPrefixOf (b :: l) = false := by simp [List.isPrefixOf, Ne.symm h]
  rw [Lib.index, hp]; simp
theorem cut_brk (c : UInt8) : ∀ s : List UInt8, Lib.cut s [c] = brkC c s
  | [] => by simp [Lib.cut, Lib.index, brkC]
  | b :: l => by
    have ih := cut_brk c l
    have hge := Lib.index_ge l [c]
    by_cases h : b = c
    · subst h
      unfold Lib.cut brkC
      rw [index_cons_eq, if_pos (by decide), if_pos rfl]
      rfl
    · unfold brkC
      rw [if_neg h, ← ih]
      unfold Lib.cut
      rw [index_cons_ne b c l h]
      by_cases hm : Lib.index l [c] = -1
      · rw [hm]; rfl
      · obtain ⟨j, hj⟩ : ∃ j : Nat, Lib.index l [c] = j := ⟨(Lib.index l [c]).toNat, by omega⟩
        have e0 : (if (Lib.index l [c] == -1) = true then (-1 : Int) else Lib.index l [c] + 1) = (j : Int) + 1 := by rw [if_neg (by simpa using hm), hj]
        rw [e0, hj, if_pos (by omega), if_pos (by omega)]
        have e1 : ((j : Int) + 1).toNat = j + 1 := by omega
        have e2 : (j : Int).toNat = j := by omega
        rw [e1, e2]
        simp [Nat.add_assoc]
theorem splitK_C (c : UInt8) : ∀ s : List UInt8, Lib.splitK [c] 0 (Lib.count s [c]) s = splitC c s
  | [] => by rw [Lib.count_one]; rfl
  | b :: l => by
    have ih := splitK_C c l
    have hge := Lib.index_ge l [c]
    by_cases h : b = c
    · subst h
      rw [Lib.count_cons_eq, Nat.add_comm, Lib.splitK, index_cons_eq]
      simp only [splitC, if_pos]
      have e : ((0 : Int) == -1) = false := by decide
      rw [e]
      simpa using ih
    · rw [Lib.count_cons_ne b c l h]
      unfold splitC
      rw [if_neg h, ← ih]
      by_cases hm : Lib.index l [c] = -1
      · rw [Lib.count_miss hm]
        rfl
      · obtain ⟨j, hj⟩ : ∃ j : Nat, Lib.index l [c] = j := ⟨(Lib.index l [c]).toNat, by omega⟩
        rw [Lib.count_hit (by simp) hj, Nat.add_comm, Lib.splitK, Lib.splitK, index_cons_ne b c l h, hj]
        have e1 : ((j : Int) == -1) = false := beq_eq_false_iff_ne.2 (by omega)
        have e2 : (((j : Int) + 1) == -1) = false := beq_eq_false_iff_ne.2 (by omega)
        have e3 : ((j : Int) + 1).toNat = j + 1 := by omega
        have e4 : (j : Int).toNat = j := by omega
        rw [e1]
        simp only [Bool.false_eq_true, if_false]
        rw [e2]
        simp only [Bool.false_eq_true, if_false, e3, e4, Nat.add_zero]
        simp [Nat.add_assoc, Nat.add_comm 1 1]
end Pv
end Go.Proofs.YtcfcmafmdpbjoaaDoor
/- THE LIBRARY's strings.Builder AT THIS PROGRAM: the layings of its functions. -/
set_option linter.unusedSimpArgs false
set_option linter.unusedVariables false
namespace Go.Proofs.YtcfcmafmdpbjoaaDoor
namespace Sh
open Go.Shelf
def lays240_ren : Go.Shelf.Ren := ⟨fun | 166 => 52 | 167 => 53 | 240 => 63 | 276 => 77 | 169 => 36 | n => n, fun | 70 => 64 | 72 => 66 | 37 => 35 | 75 => 81 | 80 => 68 | 164 => 101 | 127 => 85 | n => n, fun | n => n⟩
theorem lays240 : Go.Proofs.Lays.n240 Tryd.prog lays240_ren := {
  mixed := by kernel_rfl
  f240 := Tryd.func63.trans (congrArg some (by kernel_rfl))
  f276 := Tryd.func77.trans (congrArg some (by kernel_rfl))
  t0 := Tryd.underlying0
  a0 := Tryd.isAgg0
  z0 := Tryd.sizeOf0
  v0 := Tryd.zeroValue0
  t4 := Tryd.underlying4
  a4 := Tryd.isAgg4
  z4 := Tryd.sizeOf4
  v4 := Tryd.zeroValue4
  t9 := Tryd.underlying9
  a9 := Tryd.isAgg9
  z9 := Tryd.sizeOf9
  v9 := Tryd.zeroValue9
  t20 := Tryd.underlying20
  a20 := Tryd.isAgg20
  z20 := Tryd.sizeOf20
  v20 := Tryd.zeroValue20
  t70 := Tryd.underlying64
  a70 := Tryd.isAgg64
  z70 := Tryd.sizeOf64
  v70 := Tryd.zeroValue64
  t72 := Tryd.underlying66
  a72 := Tryd.isAgg66
  z72 := Tryd.sizeOf66
  v72 := Tryd.zeroValue66
  t164 := Tryd.underlying101
  a164 := Tryd.isAgg101
  z164 := Tryd.sizeOf101
  v164 := Tryd.zeroValue101 }
def lays167_ren : Go.Shelf.Ren := ⟨fun | 166 => 52 | 167 => 53 | 240 => 63 | 276 => 77 | 169 => 36 | n => n, fun | 70 => 64 | 72 => 66 | 37 => 35 | 75 => 81 | 80 => 68 | 164 => 101 | 127 => 85 | n => n, fun | n => n⟩
theorem lays167 : Go.Proofs.Lays.n167 Tryd.prog lays167_ren := {
  mixed := by kernel_rfl
  f167 := Tryd.func53.trans (congrArg some (by kernel_rfl))
  f240 := Tryd.func63.trans (congrArg some (by kernel_rfl))
  f276 := Tryd.func77.trans (congrArg some (by kernel_rfl))
  t0 := Tryd.underlying0
  a0 := Tryd.isAgg0
  z0 := Tryd.sizeOf0
  v0 := Tryd.zeroValue0
  t4 := Tryd.underlying4
  a4 := Tryd.isAgg4
  z4 := Tryd.sizeOf4
  v4 := Tryd.zeroValue4
  t5 := Tryd.underlying5
  a5 := Tryd.isAgg5
  z5 := Tryd.sizeOf5
  v5 := Tryd.zeroValue5
  t9 := Tryd.underlying9
  a9 := Tryd.isAgg9
  z9 := Tryd.sizeOf9
  v9 := Tryd.zeroValue9
  t20 := Tryd.underlying20
  a20 := Tryd.isAgg20
  z20 := Tryd.sizeOf20
  v20 := Tryd.zeroValue20
  t37 := Tryd.underlying35
  a37 := Tryd.isAgg35
  z37 := Tryd.sizeOf35
  v37 := Tryd.zeroValue35
  t70 := Tryd.underlying64
  a70 := Tryd.isAgg64
  z70 := Tryd.sizeOf64
  v70 := Tryd.zeroValue64
  t72 := Tryd.underlying66
  a72 := Tryd.isAgg66
  z72 := Tryd.sizeOf66
  v72 := Tryd.zeroValue66
  t75 := Tryd.underlying81
  a75 := Tryd.isAgg81
  z75 := Tryd.sizeOf81
  v75 := Tryd.zeroValue81
  t164 := Tryd.underlying101
  a164 := Tryd.isAgg101
  z164 := Tryd.sizeOf101
  v164 := Tryd.zeroValue101 }
def lays166_ren : Go.Shelf.Ren := ⟨fun | 166 => 52 | 167 => 53 | 240 => 63 | 276 => 77 | 169 => 36 | n => n, fun | 70 => 64 | 72 => 66 | 37 => 35 | 75 => 81 | 80 => 68 | 164 => 101 | 127 => 85 | n => n, fun | n => n⟩
theorem lays166 : Go.Proofs.Lays.n166 Tryd.prog lays166_ren := {
  mixed := by kernel_rfl
  f166 := Tryd.func52.trans (congrArg some (by kernel_rfl))
  f240 := Tryd.func63.trans (congrArg some (by kernel_rfl))
  f276 := Tryd.func77.trans (congrArg some (by kernel_rfl))
  t0 := Tryd.underlying0
  a0 := Tryd.isAgg0
  z0 := Tryd.sizeOf0
  v0 := Tryd.zeroValue0
  t3 := Tryd.underlying3
  a3 := Tryd.isAgg3
  z3 := Tryd.sizeOf3
  v3 := Tryd.zeroValue3
  t4 := Tryd.underlying4
  a4 := Tryd.isAgg4
  z4 := Tryd.sizeOf4
  v4 := Tryd.zeroValue4
  t9 := Tryd.underlying9
  a9 := Tryd.isAgg9
  z9 := Tryd.sizeOf9
  v9 := Tryd.zeroValue9
  t20 := Tryd.underlying20
  a20 := Tryd.isAgg20
  z20 := Tryd.sizeOf20
  v20 := Tryd.zeroValue20
  t37 := Tryd.underlying35
  a37 := Tryd.isAgg35
  z37 := Tryd.sizeOf35
  v37 := Tryd.zeroValue35
  t70 := Tryd.underlying64
  a70 := Tryd.isAgg64
  z70 := Tryd.sizeOf64
  v70 := Tryd.zeroValue64
  t72 := Tryd.underlying66
  a72 := Tryd.isAgg66
  z72 := Tryd.sizeOf66
  v72 := Tryd.zeroValue66
  t75 := Tryd.underlying81
  a75 := Tryd.isAgg81
  z75 := Tryd.sizeOf81
  v75 := Tryd.zeroValue81
  t164 := Tryd.underlying101
  a164 := Tryd.isAgg101
  z164 := Tryd.sizeOf101
  v164 := Tryd.zeroValue101 }
def lays169_ren : Go.Shelf.Ren := ⟨fun | 166 => 52 | 167 => 53 | 240 => 63 | 276 => 77 | 169 => 36 | n => n, fun | 70 => 64 | 72 => 66 | 37 => 35 | 75 => 81 | 80 => 68 | 164 => 101 | 127 => 85 | n => n, fun | n => n⟩
theorem lays169 : Go.Proofs.Lays.n169 Tryd.prog lays169_ren := {
  mixed := by kernel_rfl
  f169 := Tryd.func36.trans (congrArg some (by kernel_rfl))
  t0 := Tryd.underlying0
  a0 := Tryd.isAgg0
  z0 := Tryd.sizeOf0
  v0 := Tryd.zeroValue0
  t3 := Tryd.underlying3
  a3 := Tryd.isAgg3
  z3 := Tryd.sizeOf3
  v3 := Tryd.zeroValue3
  t9 := Tryd.underlying9
  a9 := Tryd.isAgg9
  z9 := Tryd.sizeOf9
  v9 := Tryd.zeroValue9
  t37 := Tryd.underlying35
  a37 := Tryd.isAgg35
  z37 := Tryd.sizeOf35
  v37 := Tryd.zeroValue35
  t70 := Tryd.underlying64
  a70 := Tryd.isAgg64
  z70 := Tryd.sizeOf64
  v70 := Tryd.zeroValue64
  t72 := Tryd.underlying66
  a72 := Tryd.isAgg66
  z72 := Tryd.sizeOf66
  v72 := Tryd.zeroValue66
  t127 := Tryd.underlying85
  a127 := Tryd.isAgg85
  z127 := Tryd.sizeOf85
  v127 := Tryd.zeroValue85 }
theorem bX_240 : Go.Proofs.Builder.X72 Tryd.prog lays240_ren := {
  sizeBuilder := by kernel_rfl
  liesBuilder := by kernel_rfl }
theorem bX_167 : Go.Proofs.Builder.Extra Tryd.prog lays167_ren := {
  sizeBuilder := by kernel_rfl
  liesBuilder := by kernel_rfl
  t5 := Tryd.underlying5
  a5 := Tryd.isAgg5
  z5 := Tryd.sizeOf5
  v5 := Tryd.zeroValue5
  infoByte := by kernel_rfl
  cellsByte := by kernel_rfl
  sizeByte := by kernel_rfl
  neB5 := by decide }
theorem bX_166 : Go.Proofs.Builder.Extra Tryd.prog lays166_ren := {
  sizeBuilder := by kernel_rfl
  liesBuilder := by kernel_rfl
  t5 := Tryd.underlying5
  a5 := Tryd.isAgg5
  z5 := Tryd.sizeOf5
  v5 := Tryd.zeroValue5
  infoByte := by kernel_rfl
  cellsByte := by kernel_rfl
  sizeByte := by kernel_rfl
  neB5 := by decide }
theorem bX_169 : Go.Proofs.Builder.Extra Tryd.prog lays169_ren := {
  sizeBuilder := by kernel_rfl
  liesBuilder := by kernel_rfl
  t5 := Tryd.underlying5
  a5 := Tryd.isAgg5
  z5 := Tryd.sizeOf5
  v5 := Tryd.zeroValue5
  infoByte := by kernel_rfl
  cellsByte := by kernel_rfl
  sizeByte := by kernel_rfl
  neB5 := by decide }
end Sh
end Go.Proofs.YtcfcmafmdpbjoaaDoor
/- THE LIBRARY's CONTRACTS AT THIS PROGRAM: laid by the shelf's own programs (plain words). -/
set_option linter.unusedSimpArgs false
set_option linter.unusedVariables false
namespace Go.Proofs.YtcfcmafmdpbjoaaDoor
namespace Sh
open Go.Shelf
def laysM171_ren : Go.Shelf.Ren := ⟨fun | 171 => 47 | 243 => 58 | 246 => 69 | 283 => 89 | 284 => 90 | 285 => 91 | 286 => 92 | 129 => 88 | 317 => 102 | 318 => 103 | 319 => 104 | 320 => 105 | 337 => 107 | 338 => 108 | n => n, fun | 3 => 3 | 9 => 9 | 2 => 2 | 4 => 4 | 171 => 114 | 0 => 0 | 53 => 113 | 37 => 35 | 5 => 5 | 173 => 116 | 212 => 127 | 51 => 111 | 20 => 20 | 213 => 128 | 46 => 95 | 232 => 136 | 233 => 137 | n => n, fun | 17 => 1 | 18 => 4 | 19 => 5 | n => n⟩
theorem laysM171 : Go.Proofs.LaysM.n171 Tryd.prog laysM171_ren := {
  mixed := by kernel_rfl
  f129 := Tryd.func88.trans (congrArg some (by kernel_rfl))
  f171 := Tryd.func47.trans (congrArg some (by kernel_rfl))
  f243 := Tryd.func58.trans (congrArg some (by kernel_rfl))
  f246 := Tryd.func69.trans (congrArg some (by kernel_rfl))
  f283 := Tryd.func89.trans (congrArg some (by kernel_rfl))
  f284 := Tryd.func90.trans (congrArg some (by kernel_rfl))
  f285 := Tryd.func91.trans (congrArg some (by kernel_rfl))
  f286 := Tryd.func92.trans (congrArg some (by kernel_rfl))
  f317 := Tryd.func102.trans (congrArg some (by kernel_rfl))
  f318 := Tryd.func103.trans (congrArg some (by kernel_rfl))
  f319 := Tryd.func104.trans (congrArg some (by kernel_rfl))
  f320 := Tryd.func105.trans (congrArg some (by kernel_rfl))
  f337 := Tryd.func107.trans (congrArg some (by kernel_rfl))
  f338 := Tryd.func108.trans (congrArg some (by kernel_rfl))
  t0 := Tryd.underlying0
  a0 := Tryd.isAgg0
  z0 := Tryd.sizeOf0
  v0 := Tryd.zeroValue0
  t2 := Tryd.underlying2
  a2 := Tryd.isAgg2
  z2 := Tryd.sizeOf2
  v2 := Tryd.zeroValue2
  t3 := Tryd.underlying3
  a3 := Tryd.isAgg3
  z3 := Tryd.sizeOf3
  v3 := Tryd.zeroValue3
  t4 := Tryd.underlying4
  a4 := Tryd.isAgg4
  z4 := Tryd.sizeOf4
  v4 := Tryd.zeroValue4
  t5 := Tryd.underlying5
  a5 := Tryd.isAgg5
  z5 := Tryd.sizeOf5
  v5 := Tryd.zeroValue5
  t9 := Tryd.underlying9
  a9 := Tryd.isAgg9
  z9 := Tryd.sizeOf9
  v9 := Tryd.zeroValue9
  t20 := Tryd.underlying20
  a20 := Tryd.isAgg20
  z20 := Tryd.sizeOf20
  v20 := Tryd.zeroValue20
  t37 := Tryd.underlying35
  a37 := Tryd.isAgg35
  z37 := Tryd.sizeOf35
  v37 := Tryd.zeroValue35
  t46 := Tryd.underlying95
  a46 := Tryd.isAgg95
  z46 := Tryd.sizeOf95
  v46 := Tryd.zeroValue95
  t51 := Tryd.underlying111
  a51 := Tryd.isAgg111
  z51 := Tryd.sizeOf111
  v51 := Tryd.zeroValue111
  t53 := Tryd.underlying113
  a53 := Tryd.isAgg113
  z53 := Tryd.sizeOf113
  v53 := Tryd.zeroValue113
  t171 := Tryd.underlying114
  a171 := Tryd.isAgg114
  z171 := Tryd.sizeOf114
  v171 := Tryd.zeroValue114
  t173 := Tryd.underlying116
  a173 := Tryd.isAgg116
  z173 := Tryd.sizeOf116
  v173 := Tryd.zeroValue116
  t212 := Tryd.underlying127
  a212 := Tryd.isAgg127
  z212 := Tryd.sizeOf127
  v212 := Tryd.zeroValue127
  t213 := Tryd.underlying128
  a213 := Tryd.isAgg128
  z213 := Tryd.sizeOf128
  t232 := Tryd.underlying136
  a232 := Tryd.isAgg136
  z232 := Tryd.sizeOf136
  v232 := Tryd.zeroValue136
  t233 := Tryd.underlying137
  a233 := Tryd.isAgg137
  z233 := Tryd.sizeOf137
  v233 := Tryd.zeroValue137
  g17 := by kernel_rfl
  g18 := by kernel_rfl
  g19 := by kernel_rfl
  i0 := by kernel_rfl
  i2 := by kernel_rfl
  i3 := by kernel_rfl
  i4 := by kernel_rfl
  i5 := by kernel_rfl
  i9 := by kernel_rfl
  i20 := by kernel_rfl
  i37 := by kernel_rfl
  i46 := by kernel_rfl
  i51 := by kernel_rfl
  i53 := by kernel_rfl
  i171 := by kernel_rfl
  i173 := by kernel_rfl
  i212 := by kernel_rfl
  i232 := by kernel_rfl
  i233 := by kernel_rfl
  m17 := by kernel_rfl
  m18 := by kernel_rfl
  m19 := by kernel_rfl }
def lays145_ren : Go.Shelf.Ren := ⟨fun | 145 => 29 | 220 => 48 | 219 => 59 | 217 => 70 | 225 => 71 | 224 => 72 | 267 => 73 | 266 => 93 | 314 => 94 | n => n, fun | 9 => 9 | 4 => 4 | 59 => 58 | 3 => 3 | 5 => 5 | 46 => 95 | 146 => 118 | 51 => 111 | n => n, fun | 1 => 0 | n => n⟩
theorem lays145 : Go.Proofs.Lays.n145 Tryd.prog lays145_ren := {
  mixed := by kernel_rfl
  f145 := Tryd.func29.trans (congrArg some (by kernel_rfl))
  f217 := Tryd.func70.trans (congrArg some (by kernel_rfl))
  f219 := Tryd.func59.trans (congrArg some (by kernel_rfl))
  f220 := Tryd.func48.trans (congrArg some (by kernel_rfl))
  f224 := Tryd.func72.trans (congrArg some (by kernel_rfl))
  f225 := Tryd.func71.trans (congrArg some (by kernel_rfl))
  f266 := Tryd.func93.trans (congrArg some (by kernel_rfl))
  f267 := Tryd.func73.trans (congrArg some (by kernel_rfl))
  f314 := Tryd.func94.trans (congrArg some (by kernel_rfl))
  t3 := Tryd.underlying3
  a3 := Tryd.isAgg3
  z3 := Tryd.sizeOf3
  v3 := Tryd.zeroValue3
  t4 := Tryd.underlying4
  a4 := Tryd.isAgg4
  z4 := Tryd.sizeOf4
  v4 := Tryd.zeroValue4
  t5 := Tryd.underlying5
  a5 := Tryd.isAgg5
  z5 := Tryd.sizeOf5
  v5 := Tryd.zeroValue5
  t9 := Tryd.underlying9
  a9 := Tryd.isAgg9
  z9 := Tryd.sizeOf9
  v9 := Tryd.zeroValue9
  t46 := Tryd.underlying95
  a46 := Tryd.isAgg95
  z46 := Tryd.sizeOf95
  v46 := Tryd.zeroValue95
  t51 := Tryd.underlying111
  a51 := Tryd.isAgg111
  z51 := Tryd.sizeOf111
  v51 := Tryd.zeroValue111
  t59 := Tryd.underlying58
  a59 := Tryd.isAgg58
  z59 := Tryd.sizeOf58
  v59 := Tryd.zeroValue58
  t146 := Tryd.underlying118
  a146 := Tryd.isAgg118
  z146 := Tryd.sizeOf118
  v146 := Tryd.zeroValue118
  g1 := by kernel_rfl }
def lays146_ren : Go.Shelf.Ren := ⟨fun | 146 => 32 | 221 => 50 | 268 => 60 | 138 => 61 | 143 => 62 | 195 => 74 | 197 => 75 | 218 => 76 | 219 => 59 | 260 => 95 | 217 => 70 | 225 => 71 | 224 => 72 | 267 => 73 | 266 => 93 | 314 => 94 | n => n, fun | 9 => 9 | 31 => 36 | 3 => 3 | 4 => 4 | 0 => 0 | 105 => 99 | 21 => 21 | 5 => 5 | 46 => 95 | 119 => 129 | 139 => 132 | 138 => 131 | 146 => 118 | 51 => 111 | n => n, fun | 1 => 0 | 3 => 2 | 4 => 3 | n => n⟩
theorem lays146 : Go.Proofs.Lays.n146 Tryd.prog lays146_ren := {
  mixed := by kernel_rfl
  f138 := Tryd.func61.trans (congrArg some (by kernel_rfl))
  f143 := Tryd.func62.trans (congrArg some (by kernel_rfl))
  f146 := Tryd.func32.trans (congrArg some (by kernel_rfl))
  f195 := Tryd.func74.trans (congrArg some (by kernel_rfl))
  f197 := Tryd.func75.trans (congrArg some (by kernel_rfl))
  f217 := Tryd.func70.trans (congrArg some (by kernel_rfl))
  f218 := Tryd.func76.trans (congrArg some (by kernel_rfl))
  f219 := Tryd.func59.trans (congrArg some (by kernel_rfl))
  f221 := Tryd.func50.trans (congrArg some (by kernel_rfl))
  f224 := Tryd.func72.trans (congrArg some (by kernel_rfl))
  f225 := Tryd.func71.trans (congrArg some (by kernel_rfl))
  f260 := Tryd.func95.trans (congrArg some (by kernel_rfl))
  f266 := Tryd.func93.trans (congrArg some (by kernel_rfl))
  f267 := Tryd.func73.trans (congrArg some (by kernel_rfl))
  f268 := Tryd.func60.trans (congrArg some (by kernel_rfl))
  f314 := Tryd.func94.trans (congrArg some (by kernel_rfl))
  t0 := Tryd.underlying0
  a0 := Tryd.isAgg0
  z0 := Tryd.sizeOf0
  v0 := Tryd.zeroValue0
  t3 := Tryd.underlying3
  a3 := Tryd.isAgg3
  z3 := Tryd.sizeOf3
  v3 := Tryd.zeroValue3
  t4 := Tryd.underlying4
  a4 := Tryd.isAgg4
  z4 := Tryd.sizeOf4
  v4 := Tryd.zeroValue4
  t5 := Tryd.underlying5
  a5 := Tryd.isAgg5
  z5 := Tryd.sizeOf5
  v5 := Tryd.zeroValue5
  t9 := Tryd.underlying9
  a9 := Tryd.isAgg9
  z9 := Tryd.sizeOf9
  v9 := Tryd.zeroValue9
  t21 := Tryd.underlying21
  a21 := Tryd.isAgg21
  z21 := Tryd.sizeOf21
  v21 := Tryd.zeroValue21
  t31 := Tryd.underlying36
  a31 := Tryd.isAgg36
  z31 := Tryd.sizeOf36
  v31 := Tryd.zeroValue36
  t46 := Tryd.underlying95
  a46 := Tryd.isAgg95
  z46 := Tryd.sizeOf95
  v46 := Tryd.zeroValue95
  t51 := Tryd.underlying111
  a51 := Tryd.isAgg111
  z51 := Tryd.sizeOf111
  v51 := Tryd.zeroValue111
  t105 := Tryd.underlying99
  a105 := Tryd.isAgg99
  z105 := Tryd.sizeOf99
  v105 := Tryd.zeroValue99
  t119 := Tryd.underlying129
  a119 := Tryd.isAgg129
  z119 := Tryd.sizeOf129
  t138 := Tryd.underlying131
  a138 := Tryd.isAgg131
  z138 := Tryd.sizeOf131
  v138 := Tryd.zeroValue131
  t139 := Tryd.underlying132
  a139 := Tryd.isAgg132
  z139 := Tryd.sizeOf132
  v139 := Tryd.zeroValue132
  t146 := Tryd.underlying118
  a146 := Tryd.isAgg118
  z146 := Tryd.sizeOf118
  v146 := Tryd.zeroValue118
  g1 := by kernel_rfl
  g3 := by kernel_rfl
  g4 := by kernel_rfl }
def lays189_ren : Go.Shelf.Ren := ⟨fun | 189 => 56 | 125 => 68 | 257 => 67 | 128 => 87 | 129 => 88 | 294 => 78 | 295 => 79 | 296 => 80 | 297 => 81 | 298 => 82 | 299 => 83 | 216 => 84 | 300 => 85 | 301 => 86 | 328 => 96 | 329 => 97 | 330 => 98 | 331 => 99 | 332 => 100 | 215 => 101 | 343 => 106 | n => n, fun | 28 => 22 | 3 => 3 | 46 => 95 | 0 => 0 | 51 => 111 | 53 => 113 | 4 => 4 | 183 => 105 | 182 => 104 | 131 => 77 | 5 => 5 | 9 => 9 | 218 => 120 | 222 => 124 | 228 => 133 | 229 => 134 | n => n, fun | n => n⟩
theorem lays189 : Go.Proofs.Lays.n189 Tryd.prog lays189_ren := {
  mixed := by kernel_rfl
  f125 := Tryd.func68.trans (congrArg some (by kernel_rfl))
  f128 := Tryd.func87.trans (congrArg some (by kernel_rfl))
  f129 := Tryd.func88.trans (congrArg some (by kernel_rfl))
  f189 := Tryd.func56.trans (congrArg some (by kernel_rfl))
  f215 := Tryd.func101.trans (congrArg some (by kernel_rfl))
  f216 := Tryd.func84.trans (congrArg some (by kernel_rfl))
  f257 := Tryd.func67.trans (congrArg some (by kernel_rfl))
  f294 := Tryd.func78.trans (congrArg some (by kernel_rfl))
  f295 := Tryd.func79.trans (congrArg some (by kernel_rfl))
  f296 := Tryd.func80.trans (congrArg some (by kernel_rfl))
  f297 := Tryd.func81.trans (congrArg some (by kernel_rfl))
  f298 := Tryd.func82.trans (congrArg some (by kernel_rfl))
  f299 := Tryd.func83.trans (congrArg some (by kernel_rfl))
  f300 := Tryd.func85.trans (congrArg some (by kernel_rfl))
  f301 := Tryd.func86.trans (congrArg some (by kernel_rfl))
  f328 := Tryd.func96.trans (congrArg some (by kernel_rfl))
  f329 := Tryd.func97.trans (congrArg some (by kernel_rfl))
  f330 := Tryd.func98.trans (congrArg some (by kernel_rfl))
  f331 := Tryd.func99.trans (congrArg some (by kernel_rfl))
  f332 := Tryd.func100.trans (congrArg some (by kernel_rfl))
  f343 := Tryd.func106.trans (congrArg some (by kernel_rfl))
  t0 := Tryd.underlying0
  a0 := Tryd.isAgg0
  z0 := Tryd.sizeOf0
  v0 := Tryd.zeroValue0
  t3 := Tryd.underlying3
  a3 := Tryd.isAgg3
  z3 := Tryd.sizeOf3
  v3 := Tryd.zeroValue3
  t4 := Tryd.underlying4
  a4 := Tryd.isAgg4
  z4 := Tryd.sizeOf4
  v4 := Tryd.zeroValue4
  t5 := Tryd.underlying5
  a5 := Tryd.isAgg5
  z5 := Tryd.sizeOf5
  v5 := Tryd.zeroValue5
  t9 := Tryd.underlying9
  a9 := Tryd.isAgg9
  z9 := Tryd.sizeOf9
  v9 := Tryd.zeroValue9
  t28 := Tryd.underlying22
  a28 := Tryd.isAgg22
  z28 := Tryd.sizeOf22
  v28 := Tryd.zeroValue22
  t46 := Tryd.underlying95
  a46 := Tryd.isAgg95
  z46 := Tryd.sizeOf95
  v46 := Tryd.zeroValue95
  t51 := Tryd.underlying111
  a51 := Tryd.isAgg111
  z51 := Tryd.sizeOf111
  v51 := Tryd.zeroValue111
  t53 := Tryd.underlying113
  a53 := Tryd.isAgg113
  z53 := Tryd.sizeOf113
  v53 := Tryd.zeroValue113
  t131 := Tryd.underlying77
  a131 := Tryd.isAgg77
  z131 := Tryd.sizeOf77
  v131 := Tryd.zeroValue77
  t182 := Tryd.underlying104
  a182 := Tryd.isAgg104
  z182 := Tryd.sizeOf104
  v182 := Tryd.zeroValue104
  t183 := Tryd.underlying105
  a183 := Tryd.isAgg105
  z183 := Tryd.sizeOf105
  v183 := Tryd.zeroValue105
  t218 := Tryd.underlying120
  a218 := Tryd.isAgg120
  z218 := Tryd.sizeOf120
  v218 := Tryd.zeroValue120
  t222 := Tryd.underlying124
  a222 := Tryd.isAgg124
  z222 := Tryd.sizeOf124
  v222 := Tryd.zeroValue124
  t228 := Tryd.underlying133
  a228 := Tryd.isAgg133
  z228 := Tryd.sizeOf133
  v228 := Tryd.zeroValue133
  t229 := Tryd.underlying134
  a229 := Tryd.isAgg134
  z229 := Tryd.sizeOf134
  v229 := Tryd.zeroValue134 }
def laysNm215_ren : Go.Shelf.Ren := ⟨fun | 15 => 31 | n => n, fun | 22 => 22 | 3 => 3 | 4 => 4 | n => n, fun | n => n⟩
theorem laysNm215 : Go.Proofs.Lays2.n15 Tryd.prog laysNm215_ren := {
  mixed := by kernel_rfl
  f15 := Tryd.func31.trans (congrArg some (by kernel_rfl))
  t3 := Tryd.underlying3
  a3 := Tryd.isAgg3
  z3 := Tryd.sizeOf3
  v3 := Tryd.zeroValue3
  t4 := Tryd.underlying4
  a4 := Tryd.isAgg4
  z4 := Tryd.sizeOf4
  v4 := Tryd.zeroValue4
  t22 := Tryd.underlying22
  a22 := Tryd.isAgg22
  z22 := Tryd.sizeOf22
  v22 := Tryd.zeroValue22
  i3 := by kernel_rfl }
def laysNm220_ren : Go.Shelf.Ren := ⟨fun | 20 => 57 | n => n, fun | 22 => 22 | 3 => 3 | 4 => 4 | 0 => 0 | n => n, fun | n => n⟩
theorem laysNm220 : Go.Proofs.Lays2.n20 Tryd.prog laysNm220_ren := {
  mixed := by kernel_rfl
  f20 := Tryd.func57.trans (congrArg some (by kernel_rfl))
  t0 := Tryd.underlying0
  a0 := Tryd.isAgg0
  z0 := Tryd.sizeOf0
  v0 := Tryd.zeroValue0
  t3 := Tryd.underlying3
  a3 := Tryd.isAgg3
  z3 := Tryd.sizeOf3
  v3 := Tryd.zeroValue3
  t4 := Tryd.underlying4
  a4 := Tryd.isAgg4
  z4 := Tryd.sizeOf4
  v4 := Tryd.zeroValue4
  t22 := Tryd.underlying22
  a22 := Tryd.isAgg22
  z22 := Tryd.sizeOf22
  v22 := Tryd.zeroValue22
  i3 := by kernel_rfl }
def lays111_ren : Go.Shelf.Ren := ⟨fun | 111 => 37 | n => n, fun | 28 => 22 | 3 => 3 | 4 => 4 | 0 => 0 | n => n, fun | n => n⟩
theorem lays111 : Go.Proofs.Lays.n111 Tryd.prog lays111_ren := {
  mixed := by kernel_rfl
  f111 := Tryd.func37.trans (congrArg some (by kernel_rfl))
  t0 := Tryd.underlying0
  a0 := Tryd.isAgg0
  z0 := Tryd.sizeOf0
  v0 := Tryd.zeroValue0
  t3 := Tryd.underlying3
  a3 := Tryd.isAgg3
  z3 := Tryd.sizeOf3
  v3 := Tryd.zeroValue3
  t4 := Tryd.underlying4
  a4 := Tryd.isAgg4
  z4 := Tryd.sizeOf4
  v4 := Tryd.zeroValue4
  t28 := Tryd.underlying22
  a28 := Tryd.isAgg22
  z28 := Tryd.sizeOf22
  v28 := Tryd.zeroValue22 }
open Go.RowKit Go.Sort Go.Lib in
theorem strconv_Itoa (n : Int) (h0 : -9223372036854775808 ≤ n) (h1 : n ≤ 9223372036854775807) (w : World) (htab : Lib.TabIs Tryd.prog w "internal/strconv.uint64pow10" .u64 Lib.pow10Tab) :
    Calls Tryd.prog 47 #[.int .i64 n] w fun e w' => e = .returned (.string ⟨(Lib.itoa n).toArray⟩) ∧ ∃ k os, w' = grow (w.drewN k) os := Any.strconv_Itoa laysM171 n h0 h1 w htab
open Go.RowKit Go.Lib in
theorem strings_Cut (s sep : ByteArray) (m : Int) (w : World) (hs : s.size < 4294967281) (hm : w.cell? ⟨0, 0, none⟩ = some (.int .i64 m)) :
    Calls Tryd.prog 29 #[.string s, .string sep] w fun e w' => e = .returned (.tuple #[.string ⟨(Lib.cut s.data.toList sep.data.toList).1.toArray⟩, .string ⟨(Lib.cut s.data.toList sep.data.toList).2.1.toArray⟩, .bool (Lib.cut s.data.toList sep.data.toList).2.2]) ∧ ∃ n, w' = w.drewN n := Any.strings_Cut lays145 s sep m w hs hm
open Go.RowKit Go.Lib in
theorem strings_Split (s sep : ByteArray) (m : Int) (w : World) (hs : s.size < 4294967281) (hm : w.cell? ⟨0, 0, none⟩ = some (.int .i64 m)) (h1 : 1 ≤ sep.size) :
    Calls Tryd.prog 32 #[.string s, .string sep] w fun e w' =>
      e = .returned (.slice (some ⟨w.heap.size, 0, none⟩) (Lib.countB s sep + 1) (Lib.countB s sep + 1)) ∧ w' = w.alloc (.cells ((Lib.splitB sep 0 (Lib.countB s sep) s).map Value.string).toArray 9) := Any.strings_Split lays146 (by kernel_rfl) s sep m w hs hm h1
open Go.Sort Go.RowKit in
theorem slices_Sort_int (blk off cap : Nat) (zs : List Int) (w : World) (hH : Holds (Value.int .i64) w blk off zs.toArray) (hblk : blk < w.heap.size) (hsz : zs.length < 4611686018427387904) :
    Calls Tryd.prog 56 #[.slice (some ⟨blk, off, none⟩) zs.length cap] w fun e w' =>
      e = .returned (.tuple #[]) ∧ ∃ n os, w' = grow (putRow (Value.int .i64) (Sort.ahead w n) blk off (zs.mergeSort fun x y => decide (x ≤ y)).toArray) os := Any.slices_Sort_int lays189 blk off cap zs w hH hblk hsz
open Go.RowKit Go.Sort in
theorem slices_Sort_int_none (p : Option Addr) (cap : Nat) (w : World) :
    Calls Tryd.prog 56 #[.slice p 0 cap] w fun e w' => e = .returned (.tuple #[]) ∧ w' = w := Any.slices_Sort_int_none lays189 p cap w
open Go.RowKit Go.Lib in
theorem slices_Clone_int (b off n c : Nat) (zs : List Int) (w : World) (hz : n ≤ zs.length) (hbig : n * 8 ≤ 140737488355328) (hc : ∀ j, j < zs.length → w.cell? ⟨b, off + j, none⟩ = some (.int .i64 (zs.getD j 0))) :
    Calls Tryd.prog 31 #[.slice (some ⟨b, off, none⟩) n c] w fun e w' => ∃ v', e = .returned v' ∧ w'.ownsRow w.heap.size 3 1 v' n ((zs.take n).map (Value.int .i64)) ∧ v' ≠ .slice none 0 0 ∧ Below w.heap.size w w' := Any.slices_Clone_int laysNm215 b off n c zs w hz hbig hc
open Go.RowKit Go.Lib in
theorem slices_Clone_int_nil (n c : Nat) (w : World) :
    Calls Tryd.prog 31 #[.slice none n c] w fun e w' => e = .returned (.slice none 0 0) ∧ w' = w := Any.slices_Clone_int_nil laysNm215 n c w
open Go.RowKit Go.Lib in
theorem slices_Clone_int_zero (a : Addr) (c : Nat) (w : World) :
    Calls Tryd.prog 31 #[.slice (some a) 0 c] w fun e w' => ∃ v', e = .returned v' ∧ w'.ownsRow w.heap.size 3 1 v' 0 [] ∧ v' ≠ .slice none 0 0 ∧ Below w.heap.size w w' := Any.slices_Clone_int_zero laysNm215 a c w
open Go.RowKit Go.Lib Go.Sort in
theorem slices_Compact_int (blk off cap : Nat) (zs : List Int) (w : World) (hH : Holds (Value.int .i64) w blk off zs.toArray) (hsz : zs.length ≤ 9223372036854775807) (hcap : zs.length ≤ cap) :
    Calls Tryd.prog 57 #[.slice (some ⟨blk, off, none⟩) zs.length cap] w fun e w' => e = .returned (.slice (some ⟨blk, off, none⟩) (Lib.compact zs).length cap) ∧ ∃ q, w' = putRow (Value.int .i64) (Sort.ahead w q) blk off (Lib.compact zs ++ List.replicate (zs.length - (Lib.compact zs).length) 0).toArray := Any.slices_Compact_int laysNm220 blk off cap zs w hH hsz hcap
open Go.RowKit Go.Lib Go.Sort in
theorem slices_Compact_int_empty (a : Option Addr) (cap : Nat) (w : World) :
    Calls Tryd.prog 57 #[.slice a 0 cap] w fun e w' => e = .returned (.slice a 0 cap) ∧ w' = w := Any.slices_Compact_int_empty laysNm220 a cap w
open Go.RowKit Go.Lib in
theorem slices_Equal_int (b1 o1 n c b2 o2 m d : Nat) (xs ys : List Int) (w : World) (hx : n ≤ xs.length) (hy : m ≤ ys.length) (hbig : n ≤ 9223372036854775807) (hbig2 : m ≤ 9223372036854775807) (hc1 : ∀ j, j < xs.length → w.cell? ⟨b1, o1 + j, none⟩ = some (.int .i64 (xs.getD j 0))) (hc2 : ∀ j, j < ys.length → w.cell? ⟨b2, o2 + j, none⟩ = some (.int .i64 (ys.getD j 0))) :
    Calls Tryd.prog 37 #[.slice (some ⟨b1, o1, none⟩) n c, .slice (some ⟨b2, o2, none⟩) m d] w fun e w' => e = .returned (.bool (xs.take n == ys.take m)) ∧ ∃ q, w' = w.drewN q := Any.slices_Equal_int lays111 b1 o1 n c b2 o2 m d xs ys w hx hy hbig hbig2 hc1 hc2
open Go.RowKit Go.Lib in
theorem slices_Equal_int_empty (a1 a2 : Option Addr) (c m d : Nat) (w : World) (hbig2 : m ≤ 9223372036854775807) :
    Calls Tryd.prog 37 #[.slice a1 0 c, .slice a2 m d] w fun e w' => e = .returned (.bool (decide (m = 0))) ∧ w' = w := Any.slices_Equal_int_empty lays111 a1 a2 c m d w hbig2
open Go.RowKit Go.Lib in
theorem slices_Equal_int_lens (a1 a2 : Option Addr) (n c m d : Nat) (w : World) (hnm : n ≠ m) :
    Calls Tryd.prog 37 #[.slice a1 n c, .slice a2 m d] w fun e w' => e = .returned (.bool false) ∧ w' = w := Any.slices_Equal_int_lens lays111 a1 a2 n c m d w hnm
end Sh
end Go.Proofs.YtcfcmafmdpbjoaaDoor
/- LAW 24: the library's functions on texts, as pure calls. -/
set_option linter.unusedSimpArgs false
set_option linter.unusedVariables false
namespace Go.Proofs.YtcfcmafmdpbjoaaDoor
namespace Pv
open Go.RowKit
theorem args_nil (X : Cx) (γ : Gh) (w : World) (vals : List Value) (h : RepL X γ w [] vals) : vals = [] := h.nil_inv
theorem args_str (s : List UInt8) (X : Cx) (γ : Gh) (w : World) (vals : List Value) (h : RepL X γ w [.str s] vals) : vals = [strV s] := by
  obtain ⟨v, us, rfl, hv, hus⟩ := h.cons_inv
  rw [hv.str_inv, hus.nil_inv]; rfl
theorem args_str2 (s t : List UInt8) (X : Cx) (γ : Gh) (w : World) (vals : List Value) (h : RepL X γ w [.str s, .str t] vals) : vals = [strV s, strV t] := by
  obtain ⟨v, us, rfl, hv, hus⟩ := h.cons_inv
  rw [hv.str_inv, args_str t X γ w us hus]; rfl
theorem args_int (k : IntKind) (n : Int) (X : Cx) (γ : Gh) (w : World) (vals : List Value) (h : RepL X γ w [.int k n] vals) : vals = [.int k n] := by
  obtain ⟨v, us, rfl, hv, hus⟩ := h.cons_inv
  rw [hv.int_inv, hus.nil_inv]
theorem rep_raw (X : Cx) (γ : Gh) (w : World) : Rep X γ w (.raw .nilIface) .nilIface := .raw _ rfl
theorem rep_tup1 (n : Int) (X : Cx) (γ : Gh) (w : World) : Rep X γ w (.tup [.int .i64 n, .raw .nilIface]) (.tuple #[.int .i64 n, .nilIface]) := by
  refine .tup _ [.int .i64 n, .nilIface] rfl fun k c u hc hu => ?_
  match k, hc, hu with
  | 0, hc, hu => injection hc with hc; injection hu with hu; subst hc; subst hu; exact .int _ _
  | 1, hc, hu => injection hc with hc; injection hu with hu; subst hc; subst hu; exact .raw _ rfl
  | k + 2, hc, hu => simp at hc
theorem call52 (s x : List UInt8) (h : s.length + x.length ≤ 140737488355328) : PureCall Tryd.prog 52 [.pt 0 0 0, .str x] [.bld 66 5 s] ⟨.tup [.int .i64 x.length, .raw .nilIface], [.bld 66 5 (s ++ x)], []⟩ :=
  pure_bld ⟨_, Tryd.func52, rfl, rfl⟩ (args_str x) (rep_tup1 x.length) fun w b p v hp hH =>
    (held_string Sh.lays166 Sh.bX_166 hp hH x h).mono fun ev w' ⟨he, v', h1, h2, h3⟩ => ⟨he, self b, v', .inr rfl, h1, h2, h3⟩
theorem call53 (s : List UInt8) (c : UInt8) (h : s.length + 1 ≤ 140737488355328) : PureCall Tryd.prog 53 [.pt 0 0 0, .int .u8 c.toNat] [.bld 66 5 s] ⟨.raw .nilIface, [.bld 66 5 (s ++ [c])], []⟩ :=
  pure_bld ⟨_, Tryd.func53, rfl, rfl⟩ (args_int .u8 c.toNat) rep_raw fun w b p v hp hH =>
    (held_byte Sh.lays167 Sh.bX_167 hp hH c h).mono fun ev w' ⟨he, v', h1, h2, h3⟩ => ⟨he, self b, v', .inr rfl, h1, h2, h3⟩
theorem call36 (s : List UInt8) (h : s ≠ []) : PureCall Tryd.prog 36 [.pt 0 0 0] [.bld 66 5 s] ⟨.str s, [.bld 66 5 s], []⟩ :=
  pure_bld ⟨_, Tryd.func36, rfl, rfl⟩ args_nil (fun _ _ _ => .str s) fun w b p v hp hH =>
    (held_text Sh.lays169 Sh.bX_169 hH h).mono fun ev w' ⟨he, h1, h2⟩ => ⟨he, p, v, hp, h1, h2, fun g hg => .inl hg⟩
theorem keeps_grow (w : World) (k : Nat) (os : Array Obj) : Keeps (fun _ => False) w (Sort.grow (w.drewN k) os) :=
  ⟨rfl, rfl, rfl, by simp [Sort.grow], fun b hb _ => by simp [Sort.grow, Array.getElem?_append, hb]⟩
theorem keeps_drewN (w : World) (k : Nat) : Keeps (fun _ => False) w (w.drewN k) := ⟨rfl, rfl, rfl, Nat.le_refl _, fun b hb _ => rfl⟩
theorem pow_tab {w : World} (hg : ∀ b p, Pv.glob b = some p → ∃ o, w.heap[b]? = some o ∧ p o) : Lib.TabIs Tryd.prog w "internal/strconv.uint64pow10" .u64 Lib.pow10Tab := by
  obtain ⟨o, ho, T, fz, rfl⟩ := hg 1 isPow10 rfl
  unfold Lib.TabIs World.var?
  rw [show Tryd.prog.globalNamed "internal/strconv.uint64pow10" = some 1 from by kernel_rfl]
  simp [ho]
theorem some_int {w : World} (hg : ∀ b p, Pv.glob b = some p → ∃ o, w.heap[b]? = some o ∧ p o) : ∃ m, w.cell? ⟨0, 0, none⟩ = some (.int .i64 m) := by
  obtain ⟨o, ho, cs, T, fz, m, rfl, hm⟩ := hg 0 someInt rfl
  exact ⟨m, by rw [Lib.cell_of_heap ho]; exact hm⟩
theorem call47 (n : Int) (h0 : -9223372036854775808 ≤ n) (h1 : n ≤ 9223372036854775807) : PureCall Tryd.prog 47 [.int .i64 n] [] ⟨.str (Lib.itoa n), [], []⟩ :=
  pure_still ⟨_, Tryd.func47, rfl, rfl⟩ (args_int .i64 n) (fun _ _ _ => .str _) fun w hg =>
    (Sh.strconv_Itoa n h0 h1 w (pow_tab hg)).mono fun ev w' ⟨he, k, os, hw⟩ => ⟨he, by rw [hw]; exact keeps_grow w k os⟩
theorem rep_cut (a b : List UInt8) (c : Bool) (X : Cx) (γ : Gh) (w : World) : Rep X γ w (.tup [.str a, .str b, .bool c]) (.tuple #[.string ⟨a.toArray⟩, .string ⟨b.toArray⟩, .bool c]) := by
  refine .tup _ [.string ⟨a.toArray⟩, .string ⟨b.toArray⟩, .bool c] rfl fun k p u hc hu => ?_
  match k, hc, hu with
  | 0, hc, hu => injection hc with hc; injection hu with hu; subst hc; subst hu; exact .str _
  | 1, hc, hu => injection hc with hc; injection hu with hu; subst hc; subst hu; exact .str _
  | 2, hc, hu => injection hc with hc; injection hu with hu; subst hc; subst hu; exact .bool _
  | k + 3, hc, hu => simp at hc
theorem call29 (s : List UInt8) (c : UInt8) (h : s.length < 4294967281) : PureCall Tryd.prog 29 [.str s, .str [c]] [] ⟨.tup [.str (brkC c s).1, .str (brkC c s).2.1, .bool (brkC c s).2.2], [], []⟩ :=
  pure_still ⟨_, Tryd.func29, rfl, rfl⟩ (args_str2 s [c]) (rep_cut _ _ _) fun w hg => by
    obtain ⟨m, hm⟩ := some_int hg
    refine (Sh.strings_Cut ⟨s.toArray⟩ ⟨#[c]⟩ m w (by show s.toArray.size < _; rw [List.size_toArray]; exact h) hm).mono ?_
    rintro ev w' ⟨he, k, hw⟩
    refine ⟨?_, by rw [hw]; exact keeps_drewN w k⟩
    rw [he]
    show Ending.returned (.tuple #[.string ⟨(Lib.cut s [c]).1.toArray⟩, .string ⟨(Lib.cut s [c]).2.1.toArray⟩, .bool (Lib.cut s [c]).2.2]) = _
    rw [cut_brk]
theorem splitB_C (s : List UInt8) (c : UInt8) : (Lib.splitB ⟨#[c]⟩ 0 (Lib.countB ⟨s.toArray⟩ ⟨#[c]⟩) ⟨s.toArray⟩).map Value.string = (splitC c s).map strV := by
  have h := Lib.splitB_data ⟨#[c]⟩ 0 (Lib.countB ⟨s.toArray⟩ ⟨#[c]⟩) ⟨s.toArray⟩
  have h2 : Lib.splitK [c] 0 (Lib.count s [c]) s = splitC c s := splitK_C c s
  have h3 : (Lib.splitB ⟨#[c]⟩ 0 (Lib.countB ⟨s.toArray⟩ ⟨#[c]⟩) ⟨s.toArray⟩).map (·.data.toList) = splitC c s := h.trans h2
  rw [← h3, List.map_map]
  exact List.map_congr_left fun x _ => by
    show Value.string x = Value.string ⟨x.data.toList.toArray⟩
    simp
theorem call32 (s : List UInt8) (c : UInt8) (h : s.length < 4294967281) : PureCall Tryd.prog 32 [.str s, .str [c]] [] ⟨.os 1000000000, [], [.row 0 9 1 (splitC c s).length (fl eStr (splitC c s))]⟩ := by
  have h1 : 1 ≤ (⟨#[c]⟩ : ByteArray).size := Nat.le_refl 1
  have hN : Lib.countB ⟨s.toArray⟩ ⟨#[c]⟩ + 1 = (splitC c s).length := by
    rw [← Lib.splitB_all ⟨#[c]⟩ h1 0 _ ⟨s.toArray⟩ rfl, ← List.length_map (f := Value.string), splitB_C, List.length_map]
  refine pure_new2 (vs := (splitC c s).map strV) ⟨_, Tryd.func32, rfl, rfl⟩ (args_str2 s [c]) (fun X γ w => strs_rows (splitC c s)) fun w hg => ?_
  obtain ⟨m, hm⟩ := some_int hg
  refine (Sh.strings_Split ⟨s.toArray⟩ ⟨#[c]⟩ m w (by show s.toArray.size < _; rw [List.size_toArray]; exact h) hm h1).mono ?_
  rintro ev w' ⟨he, hw⟩
  rw [splitB_C] at hw
  rw [hN] at he
  have hle := (splitC_len c s).1
  have hnew : w'.heap[w.heap.size]? = some (.cells ((splitC c s).map strV).toArray 9 (0, 0)) := by
    rw [hw]
    show (w.heap.push _)[w.heap.size]? = _
    simp
  refine ⟨_, he, ⟨by simp, .inr ⟨w.heap.size, _, _, rfl, Nat.le_refl _, hnew, Nat.le_refl _, by unfold maxLen; omega, by simp, by simp only [Nat.mul_one]; exact List.take_of_length_le (by simp)⟩⟩, by rw [hw]; exact Keeps.alloc _ _ _⟩
end Pv
end Go.Proofs.YtcfcmafmdpbjoaaDoor
/- LAW 24, THE WALKS: a line of a text. -/
set_option linter.unusedSimpArgs false
set_option linter.unusedVariables false
namespace Go.Proofs.YtcfcmafmdpbjoaaDoor
namespace Pv
def c35L1 : C := (.seq (.reg [⟨(some 14), 224, none, .bi false .lss (.t 13) (.t 12)⟩])
  (.seq (.cond (.t 14) .skip (.exit 0))
  (.seq (.block 1 (.seq (.reg [⟨(some 15), 240, none, .ia 1 (.t 11) (.t 13)⟩,
    ⟨(some 16), 256, none, .ld 1 false (.t 15)⟩,
    ⟨(some 7), 112, none, .mv (.t 16)⟩])
  (.seq (.reg [⟨(some 17), 272, none, .mv (.t 0)⟩,
    ⟨(some 18), 288, none, .call (.c (.fn (.func 53) [] [])) [(.t 17), (.c (.int .u8 32))]⟩])
  (.reg [⟨(some 19), 304, none, .mv (.t 0)⟩,
    ⟨(some 20), 320, none, .mv (.t 7)⟩,
    ⟨(some 21), 336, none, .call (.c (.fn (.func 47) [] [])) [(.t 20)]⟩,
    ⟨(some 22), 352, none, .call (.c (.fn (.func 52) [] [])) [(.t 19), (.t 21)]⟩]))))
  (.reg [⟨(some 23), 368, none, .bi false .add (.t 13) (.c (.int .i64 1))⟩,
    ⟨(some 13), 208, none, .mv (.t 23)⟩]))))
def c35 : C := (.seq (.reg [⟨(some 8), 128, none, .mv (.t 0)⟩,
    ⟨(some 9), 144, none, .mv (.t 1)⟩,
    ⟨(some 10), 160, none, .call (.c (.fn (.func 52) [] [])) [(.t 8), (.t 9)]⟩])
  (.seq (.seq (.reg [⟨(some 11), 176, none, .mv (.t 2)⟩,
    ⟨(some 12), 192, none, .len (.t 11)⟩,
    ⟨(some 13), 208, none, .mv (.c (.int .i64 0))⟩])
  (.block 0 (.loop c35L1)))
  (.reg [⟨(some 24), 384, none, .mv (.t 0)⟩,
    ⟨(some 25), 400, none, .call (.c (.fn (.func 53) [] [])) [(.t 24), (.c (.int .u8 10))]⟩])))
theorem fits35 : fits Tryd.prog false Tryd.f35 3 26 [] = some c35.er := by kernel_rfl
def numsT (l : List Int) : List UInt8 := l.flatMap fun x => 32 :: Lib.itoa x
def lineF (w : List UInt8) (l : List Int) : List UInt8 := w ++ numsT l ++ [10]
def I64 (l : List Int) : Prop := ∀ i, i < l.length → -9223372036854775808 ≤ l.getD i default ∧ l.getD i default ≤ 9223372036854775807
theorem numsT_step {l : List Int} {i : Nat} (h : i < l.length) : numsT (l.take (i + 1)) = numsT (l.take i) ++ [32] ++ Lib.itoa (l.getD i default) := by
  rw [List.take_succ_eq_append_getElem h]
  unfold numsT
  rw [List.flatMap_append, List.append_assoc]
  simp [List.getD, h]
theorem numsT_len {l : List Int} (hr : I64 l) : ∀ i, i ≤ l.length → (numsT (l.take i)).length ≤ 22 * i
  | 0, _ => by simp [numsT]
  | i + 1, h => by
    have ih := numsT_len hr i (by omega)
    have h1 := hr i (by omega)
    have h2 := Lib.itoa_length_le _ h1.1 h1.2
    rw [numsT_step (by omega)]
    simp only [List.length_append, List.length_cons, List.length_nil]
    omega
set_option maxRecDepth 100000 in
set_option maxHeartbeats 4000000 in
theorem call35 (τ : Nat) (s w : List UInt8) (l : List Int) (hr : I64 l) (h : s.length + w.length + 22 * l.length + 1 ≤ 140737488355328) : PureCall Tryd.prog 35 [.pt 0 0 0, .str w, .sl τ 1 l.length (fl eInt l)] [.bld 66 5 s]
    ⟨.tup [], [.bld 66 5 (s ++ lineF w l)], []⟩ := by
  have hlen := numsT_len hr
  refine pure_call mix Tryd.func35 fits35 rfl ?_
  conv => whnf
  refine ⟨_, fun _ => call52 s w (by omega), ?_⟩
  conv => whnf
  refine ⟨?_, ?_⟩
  · exact g0
  refine LSem.loop (n := 26) mix (α := Nat) (fun i => i ≤ l.length)
    (fun i => [(0, .pt 0 0 0), (11, .sl τ 1 l.length (fl eInt l)), (12, .int .i64 l.length), (13, .int .i64 i)])
    (fun i => [(0, .bld 66 5 (s ++ w ++ numsT (l.take i)))]) (fun i => l.length - i) 0 ?_ ?_ ?_
  · exact Nat.zero_le _
  · refine ⟨rfl, rfl, ?_, ?_⟩
    all_goals repeat' (first | exact True.intro | refine leF_cons rfl ?_ ?_ | refine leS_cons rfl ?_ ?_ | (show PLe _ _ _ _; conv => whnf) | (show SLe _ _ _ _; conv => whnf) | (show PLeL _ _ _ _; conv => whnf) | apply And.intro | rfl | exact Nat.le_refl _ | exact fun _ _ => rfl | exact rowEq0 _ _)
    all_goals first | (simp [numsT]; done) | skip
  · intro i hi
    conv => whnf
    refine ⟨trivial, fun hc => ?_, fun hc => ?_⟩
    · replace hc := of_decide_eq_true hc
      have hlt : i < l.length := by
        have h : (i : Int) < l.length := hc
        omega
      have h1 := hr i hlt
      have h2 := hlen i hi
      have h3 := numsT_step hlt
      have h4 := hlen (i + 1) hlt
      rw [h3] at h4
      simp only [List.length_append, List.length_cons, List.length_nil] at h4
      conv => whnf
      refine ⟨_, fun _ => call53 (s ++ w ++ numsT (l.take i)) 32 (by simp only [List.length_append]; omega), ?_⟩
      conv => whnf
      refine ⟨_, fun _ => call47 (l.getD (Int.toNat i) default) (by rw [Int.toNat_natCast]; exact h1.1) (by rw [Int.toNat_natCast]; exact h1.2), ?_⟩
      rw [Int.toNat_natCast]
      conv => whnf
      refine ⟨_, fun _ => call52 (s ++ w ++ numsT (l.take i) ++ [32]) (Lib.itoa (l.getD i default)) (by simp only [List.length_append, List.length_cons, List.length_nil]; omega), ?_⟩
      conv => whnf
      refine ⟨?_, i + 1, hlt, ?_, rfl, rfl, ?_, ?_⟩
      · exact g0
      · omega
      all_goals repeat' (first | exact True.intro | refine leF_cons rfl ?_ ?_ | refine leS_cons rfl ?_ ?_ | (show PLe _ _ _ _; conv => whnf) | (show SLe _ _ _ _; conv => whnf) | (show PLeL _ _ _ _; conv => whnf) | apply And.intro | rfl | exact Nat.le_refl _ | exact fun _ _ => rfl | exact rowEq0 _ _)
      all_goals first | omega | (rw [h3]; simp only [List.append_assoc]; done) | skip
    · replace hc := of_decide_eq_false hc
      have hk : i = l.length := by
        have h : ¬ (i : Int) < l.length := hc
        omega
      subst hk
      conv => whnf
      rw [List.take_length]
      have h2 := hlen l.length (Nat.le_refl _)
      rw [List.take_length] at h2
      refine ⟨_, fun _ => call53 (s ++ w ++ numsT l) 10 (by simp only [List.length_append]; omega), ?_⟩
      conv => whnf
      refine ⟨?_, [], ?_⟩
      · exact g0
      conv => whnf
      refine ⟨rfl, ?_, ?_, trivial⟩
      all_goals repeat' (first | exact True.intro | refine leF_cons rfl ?_ ?_ | refine leS_cons rfl ?_ ?_ | (show PLe _ _ _ _; conv => whnf) | (show SLe _ _ _ _; conv => whnf) | (show PLeL _ _ _ _; conv => whnf) | apply And.intro | rfl | exact Nat.le_refl _ | exact fun _ _ => rfl | exact rowEq0 _ _)
      all_goals first | (simp only [lineF, List.append_assoc]; done) | skip
end Pv
end Go.Proofs.YtcfcmafmdpbjoaaDoor
/- ARGUMENTS AS THEY COME IN: what a readable argument stands for. -/
set_option linter.unusedSimpArgs false
set_option linter.unusedVariables false
namespace Go.Proofs.YtcfcmafmdpbjoaaDoor
namespace Pv
open Go.RowKit Go.ChangeShapes
inductive Sh where
  | int (k : IntKind)
  | bool
  | str
  | sl (shs : List Sh)
  deriving Inhabited
inductive ShR : Sh → PV → Prop where
  | int (k : IntKind) (n : Int) (h : inR k n) : ShR (.int k) (.int k n)
  | bool (b : Bool) : ShR .bool (.bool b)
  | str (s : List UInt8) (h : s.length ≤ maxLen) : ShR .str (.str s)
  | sl (shs : List Sh) (n : Nat) (f : Nat → List PV) (hn : n ≤ maxLen) (h1 : ∀ i, i < n → (f i).length = shs.length)
      (h2 : ∀ (i j : Nat) (s : Sh) (p : PV), i < n → shs[j]? = some s → (f i)[j]? = some p → ShR s p) : ShR (.sl shs) (.sl 1 shs.length n f)
def ShL (shs : List Sh) (ps : List PV) : Prop := ps.length = shs.length ∧ ∀ (j : Nat) (s : Sh) (p : PV), shs[j]? = some s → ps[j]? = some p → ShR s p
def fieldSh (sh : TypeId → Option (List Sh)) (P : Program) : Nat → List Field → Option (List Sh)
  | _, [] => some []
  | off, f :: fs => if f.offset = off then match sh f.type with
      | some s => if s.length = P.cellsOf f.type then match fieldSh sh P (off + s.length) fs with
          | some r => some (s ++ r)
          | none => none
        else none
      | none => none
    else none
def shp (P : Program) : Nat → TypeId → Option (List Sh)
  | 0, _ => none
  | m + 1, t => match P.underlying t with
    | some .bool => some [.bool]
    | some (.int k) => some [.int k]
    | some .string => some [.str]
    | some (.slice e) => match shp P m e with
      | some s => if s.length = P.cellsOf e ∧ 0 < s.length then some [.sl s] else none
      | none => none
    | some (.struct fs) => match fieldSh (shp P m) P 0 fs.toList with
      | some s => if s.length = P.cellsOf t then some s else none
      | none => none
    | _ => none
theorem ShR.flat {s : Sh} {p : PV} (h : ShR s p) : p.flat = true := by cases h <;> rfl
theorem ShR.mark1 {s : Sh} {p : PV} (h : ShR s p) : p.mark 1 = p := by cases h <;> rfl
theorem ShL.append {a b : List Sh} {x y : List PV} (h : ShL a x) (h' : ShL b y) : ShL (a ++ b) (x ++ y) := by
  refine ⟨by simp [h.1, h'.1], fun j s p hs hp => ?_⟩
  rw [List.getElem?_append] at hs hp
  rw [h.1] at hp
  split at hs
  · rename_i hj; rw [if_pos hj] at hp; exact h.2 j s p hs hp
  · rename_i hj; rw [if_neg hj] at hp; exact h'.2 _ s p hs hp
section
variable {H : Type} {enc : TypeId × Value → H} {P : Program} {w : World} {sp : Nat → Bool} {held : Bool} {X : Cx} {γ : Gh}
theorem trod_fields {m n : Nat} {cs : List Value} {xs : List (DataW H × List MemPlace)}
    (ih : ∀ (t : TypeId) (cs : List Value) (x : DataW H × List MemPlace) (shs : List Sh), shp P m t = some shs → DataW.trod enc P w 0 sp held n t cs = some x → ∃ ps, ShL shs ps ∧ RepL X γ w ps cs ∧ ∀ u ∈ cs, u.oneCell' = true) :
    ∀ (fs : List Field) (off k : Nat) (shs : List Sh), fieldSh (shp P m) P off fs = some shs → off + shs.length = cs.length → (∀ i f, fs[i]? = some f → DataW.trod enc P w 0 sp held n f.type ((cs.drop f.offset).take (P.cellsOf f.type)) = xs[k + i]?) → k + fs.length = xs.length →
      ∃ ps, ShL shs ps ∧ RepL X γ w ps (cs.drop off) ∧ ∀ u ∈ cs.drop off, u.oneCell' = true
  | [], off, k, shs, h, hl, hx, hk => by
    simp only [fieldSh, Option.some.injEq] at h; subst h
    have e : cs.drop off = [] := List.drop_eq_nil_of_le (by simpa using hl.symm ▸ Nat.le_refl _)
    rw [e]
    exact ⟨[], ⟨rfl, fun j s p hs => by simp at hs⟩, RepL.nil_, by simp⟩
  | f :: fs, off, k, shs, h, hl, hx, hk => by
    simp only [fieldSh] at h
    split at h
    · rename_i hoff
      split at h
      · rename_i s hs
        split at h
        · rename_i hsl
          split at h
          · rename_i r hr
            injection h with h; subst h
            simp only [List.length_append] at hl
            obtain ⟨ps', h1, h2, h3⟩ := trod_fields (cs := cs) ih fs (off + s.length) (k + 1) r hr (by omega) (fun i f' hf => by
              have := hx (i + 1) f' (by simpa using hf)
              rw [show k + (i + 1) = k + 1 + i from by omega] at this; exact this) (by simp only [List.length_cons] at hk; omega)
            have h0 := hx 0 f rfl
            have hk0 : k + 0 < xs.length := by simp only [List.length_cons] at hk; omega
            rw [List.getElem?_eq_getElem hk0] at h0
            obtain ⟨ps, g1, g2, g3⟩ := ih _ _ _ _ hs h0
            rw [hoff, ← hsl] at g2 g3
            have e : cs.drop off = (cs.drop off).take s.length ++ cs.drop (off + s.length) := by
              rw [← List.drop_drop, List.take_append_drop]
            refine ⟨ps ++ ps', g1.append h1, ?_, ?_⟩
            · rw [e]; exact g2.append h2
            · rw [e]
              intro u hu
              rcases List.mem_append.1 hu with hu | hu
              · exact g3 u hu
              · exact h3 u hu
          · cases h
        · cases h
      · cases h
    · cases h
theorem trod_rep (hX : ∀ b, b < w.heap.size → mayLie X γ 1 b) : ∀ (m fuel : Nat) (t : TypeId) (cs : List Value) (x : DataW H × List MemPlace) (shs : List Sh), shp P m t = some shs → DataW.trod enc P w 0 sp held fuel t cs = some x →
    ∃ ps, ShL shs ps ∧ RepL X γ w ps cs ∧ ∀ u ∈ cs, u.oneCell' = true := by
  have one : ∀ (s : Sh) (p : PV) (v : Value), ShR s p → Rep X γ w p v → v.oneCell' = true → ∃ ps, ShL [s] ps ∧ RepL X γ w ps [v] ∧ ∀ u ∈ [v], u.oneCell' = true := fun s p v h1 h2 h3 =>
    ⟨[p], ⟨rfl, fun j s' p' hs hp => by
      cases j with
      | zero => simp only [List.getElem?_cons_zero, Option.some.injEq] at hs hp; subst hs; subst hp; exact h1
      | succ j => simp at hs⟩, RepL.cons_ h2 RepL.nil_, by simpa using h3⟩
  intro m
  induction m with
  | zero => intro fuel t cs x shs h; simp [shp] at h
  | succ m ih =>
    intro fuel t cs x shs h hd
    simp only [shp] at h
    split at h
    · rename_i ht
      injection h with h; subst h
      obtain ⟨b, rfl, _⟩ := DataW.trod_bool ht hd
      exact one _ _ _ (.bool b) (.bool b) rfl
    · rename_i k ht
      injection h with h; subst h
      obtain ⟨n, rfl, _, hw⟩ := DataW.trod_int ht hd
      simp only [Lit.wf, Bool.and_eq_true, decide_eq_true_eq] at hw
      exact one _ _ _ (.int k n hw) (.int k n) rfl
    · rename_i ht
      injection h with h; subst h
      obtain ⟨s, rfl, _, hw⟩ := DataW.trod_string ht hd
      have e : s = ⟨s.data.toList.toArray⟩ := by cases s; simp
      refine one _ (.str s.data.toList) _ (.str _ (by rw [Array.length_toList]; exact hw)) ?_ rfl
      have := Rep.str (X := X) (γ := γ) (w := w) s.data.toList
      rwa [← e] at this
    · rename_i e ht
      split at h
      · rename_i s hs
        split at h
        · rename_i hc
          obtain ⟨hsl, hpos⟩ := hc
          injection h with h; subst h
          rcases DataW.trod_slice ht hd with ⟨rfl, _⟩ | ⟨a, len, cap, elems, rest, n, hf, rfl, _, hb, hlc, hcm, hel, helem, _, _⟩
          · refine one _ (.sl 1 s.length 0 (fun _ => [])) _ (.sl s 0 _ (Nat.zero_le _) (fun i hi => by omega) (fun i j s p hi => by omega)) ?_ rfl
            exact .sl 1 _ 0 _ none 0 (fun _ => undef) (Nat.le_refl _) (fun i hi => by omega) (fun i hi => by omega) (fun hi => by omega) (fun i j c hi => by omega)
          · have hex : ∀ i, ∃ ps, i < len → ShL s ps ∧ ∃ cs', w.cells? 0 (a.add (i * P.cellsOf e)) (P.cellsOf e) = some cs' ∧ RepL X γ w ps cs' := fun i => by
              by_cases hi : i < len
              · have h1 := helem i hi
                rw [List.getElem?_eq_getElem (by omega)] at h1
                obtain ⟨cs', h2, h3⟩ := Option.bind_eq_some_iff.1 h1
                obtain ⟨ps, g1, g2, _⟩ := ih _ _ _ _ _ hs h3
                exact ⟨ps, fun _ => ⟨g1, cs', h2, g2⟩⟩
              · exact ⟨[], fun h => absurd h hi⟩
            let f : Nat → List PV := fun i => Classical.choose (hex i)
            have hf' : ∀ i, i < len → ShL s (f i) ∧ ∃ cs', w.cells? 0 (a.add (i * P.cellsOf e)) (P.cellsOf e) = some cs' ∧ RepL X γ w (f i) cs' := fun i => Classical.choose_spec (hex i)
            have hcell : ∀ i j, i < len → j < s.length → ∃ u p, w.cell? (a.add (i * s.length + j)) = some u ∧ (f i)[j]? = some p ∧ Rep X γ w p u := fun i j hi hj => by
              obtain ⟨g1, cs', g2, g3⟩ := hf' i hi
              obtain ⟨_, k2, k3⟩ := World.cells?_some g2
              have hj' : j < cs'.length := by rw [k2, ← hsl]; exact hj
              have hk := k3 j (by rw [← hsl]; exact hj)
              rw [List.getElem?_eq_getElem hj', add_add_, ← hsl] at hk
              have hpj : j < (f i).length := by rw [g1.1]; exact hj
              exact ⟨_, _, hk, List.getElem?_eq_getElem hpj, g3.2 j _ _ (List.getElem?_eq_getElem hpj) (List.getElem?_eq_getElem hj')⟩
            refine one _ (.sl 1 s.length len f) _ (.sl s len f (Nat.le_trans hlc hcm) (fun i hi => (hf' i hi).1.1) (fun i j s' p hi hs' hp => (hf' i hi).1.2 j s' p hs' hp)) ?_ rfl
            have hsh : ∀ i, i < len → ∀ c ∈ f i, ∃ s', ShR s' c := fun i hi c hc => by
              obtain ⟨j, hj⟩ := List.getElem?_of_mem hc
              have hlt := (List.getElem?_eq_some_iff.1 hj).1
              have hlt2 : j < s.length := by rw [← (hf' i hi).1.1]; exact hlt
              exact ⟨_, (hf' i hi).1.2 j _ _ (List.getElem?_eq_getElem hlt2) hj⟩
            refine .sl 1 s.length len f (some a) cap (fun k => (w.cell? (a.add k)).getD undef) hlc (fun i hi => (hf' i hi).1.1) (fun i hi c hc => by obtain ⟨s', h⟩ := hsh i hi c hc; exact h.flat) (fun hn => ?_) (fun i j c hi hc => ?_)
            · obtain ⟨u, p, h1, _, _⟩ := hcell 0 0 hn hpos
              have hblk : a.block < w.heap.size := by
                obtain ⟨_, cs', g2, _⟩ := hf' 0 hn
                have := World.cells?_block g2 (by omega)
                have e : (a.add (0 * P.cellsOf e)).block = a.block := by unfold Addr.add; split <;> rfl
                rwa [e] at this
              refine ⟨a, rfl, hX _ hblk, hblk, fun k hk => ?_⟩
              have hk1 : k / s.length < len := by rw [Nat.div_lt_iff_lt_mul hpos]; exact hk
              obtain ⟨u, p, h1, _, _⟩ := hcell (k / s.length) (k % s.length) hk1 (Nat.mod_lt _ hpos)
              rw [Nat.mul_comm, Nat.div_add_mod] at h1
              exact cellT_pos (by decide) (by rw [h1]; rfl)
            · have hj : j < s.length := by rw [← (hf' i hi).1.1]; exact (List.getElem?_eq_some_iff.1 hc).1
              obtain ⟨u, p, h1, h2, h3⟩ := hcell i j hi hj
              rw [h2] at hc; injection hc with hc; subst hc
              obtain ⟨s', h⟩ := hsh i hi p (List.mem_of_getElem? h2)
              rw [h.mark1, h1]; exact h3
        · cases h
      · cases h
    · rename_i fs ht
      split at h
      · rename_i s hs
        split at h
        · rename_i hsl
          injection h with h; subst h
          obtain ⟨xs, n, rfl, _, hcl, hxl, hx⟩ := DataW.trod_struct ht hd
          obtain ⟨ps, h1, h2, h3⟩ := trod_fields (cs := cs) (xs := xs) (ih n) fs.toList 0 0 s hs (by omega) (fun i f hf => by rw [Nat.zero_add]; exact hx i f (by simpa using hf)) (by simpa using hxl.symm)
          exact ⟨ps, h1, by simpa using h2, by simpa using h3⟩
        · cases h
      · cases h
    · cases h
end
end Pv
end Go.Proofs.YtcfcmafmdpbjoaaDoor
/- A LAW's ROW, FROM ITS FUNCTION's CONTRACT. -/
set_option linter.unusedSimpArgs false
set_option linter.unusedVariables false
namespace Go.Proofs.YtcfcmafmdpbjoaaDoor
namespace Pv
open Go.RowKit Go.ChangeShapes
section
variable {H : Type} {enc : TypeId × Value → H} {P : Program} {w : World} {sp : Nat → Bool} {held : Bool}
def cx0 (w : World) : Cx := ⟨w.heap.size, fun b => b < w.heap.size, fun _ => False, 0, fun _ => none, []⟩
def gh0 : Gh := fun _ => none
theorem gh0_own (b : Nat) : ¬ gh0.own b := by rintro ⟨r, ge, h, _⟩; cases h
theorem lie0 (b : Nat) (hb : b < w.heap.size) : mayLie (cx0 w) gh0 1 b := ⟨gh0_own b, .inr (.inl ⟨Nat.le_refl _, hb⟩)⟩
def GlobOK (w : World) : Prop := ∀ b p, glob b = some p → ∃ o, w.heap[b]? = some o ∧ p o
theorem globOK_none (h : ∀ b, glob b = none) : GlobOK w := fun b p hb => by rw [h b] at hb; cases hb
theorem st0 (hgl : GlobOK w) : RepSt (cx0 w) gh0 w (fun r => ([] : List SE)[r]?) :=
  ⟨fun r => by simp [gh0], fun r ge e h => (by cases h), fun r r' ge ge' b h => (by cases h), fun b hb => absurd hb (gh0_own b), fun b hb => absurd hb (gh0_own b), fun b p hb => ⟨hgl b p hb, gh0_own b, by
    obtain ⟨o, h1, _⟩ := hgl b p hb
    exact (Array.getElem?_eq_some_iff.1 h1).1⟩⟩
theorem law_calls (hgl : GlobOK w) {f : FuncId} {args : List PV} {vals : List Value} (h : PureCall P f args [] ⟨.bool true, [], []⟩) (hr : RepL (cx0 w) gh0 w args vals) :
    Calls P f vals.toArray w fun e w' => e = .returned (.bool true) ∧ Below w.heap.size w w' := by
  have hst : RepSt ⟨w.heap.size, (cx0 w).as, (cx0 w).ls, ([] : List SE).length, gh0, []⟩ gh0 w (fun r => ([] : List SE)[r]?) :=
    st0 (w := w) hgl
  refine (h.2 w gh0 (cx0 w).as (cx0 w).ls vals hst (fun b hb => hb.elim (fun h => h) (fun h => h.elim)) hr).mono ?_
  rintro e w' ⟨v, γ', rfl, hv, _, hk, _, _⟩
  cases hv.bool_inv
  exact ⟨rfl, hk.os, hk.tape, hk.output, hk.size, fun k hk' => hk.block k hk' (gh0_own k)⟩
theorem arg_one {m : Nat} {t : TypeId} {s : Sh} {v : Value} {d : DataW H} {ps : List MemPlace} (hs : shp P m t = some [s]) (hv : v.oneCell' = true) (h : DataW.Trod enc P w 0 sp held t v d ps) : ∃ p, ShR s p ∧ Rep (cx0 w) gh0 w p v := by
  obtain ⟨fuel, hf⟩ := h
  rw [cells_one hv] at hf
  obtain ⟨ps, h1, h2, _⟩ := trod_rep (X := cx0 w) (γ := gh0) lie0 _ _ _ _ _ _ hs hf
  obtain ⟨h1, h1'⟩ := h1
  match ps, h1 with
  | [p], _ =>
    obtain ⟨u, us, hu, hr, _⟩ := h2.cons_inv
    simp only [List.cons.injEq] at hu
    exact ⟨p, h1' 0 s p rfl rfl, by rw [hu.1]; exact hr⟩
theorem arg_agg {m : Nat} {t : TypeId} {shs : List Sh} {cs : Array Value} {d : DataW H} {ps : List MemPlace} (hs : shp P m t = some shs) (h : DataW.Trod enc P w 0 sp held t (.agg cs) d ps) : ∃ qs, ShL shs qs ∧ Rep (cx0 w) gh0 w (.agg qs) (.agg cs) := by
  obtain ⟨fuel, hf⟩ := h
  obtain ⟨qs, h1, h2, h3⟩ := trod_rep (X := cx0 w) (γ := gh0) lie0 _ _ _ _ _ _ hs hf
  have := Rep.agg qs cs.toList h2.1 h3 h2.2
  exact ⟨qs, h1, by simpa using this⟩
theorem Rep.le0 (hgl : GlobOK w) {p q : PV} {v : Value} (h : Rep (cx0 w) gh0 w p v) (hl : PLe (fun r => ([] : List SE)[r]?) (fun _ => true) p q) : Rep (cx0 w) gh0 w q v :=
  h.le (γk := gh0) (st0 hgl) (fun r ge b τ e z n f hr => (by cases hr)) (fun r ge hr _ => hr) (fun r ge hr => ⟨hr, rfl⟩) q hl
theorem sh_list (hgl : GlobOK w) {α : Type} [Inhabited α] (e : α → List PV) (Q : α → Prop) {shs : List Sh} (hdec : ∀ ps, ShL shs ps → ∃ x, ps = e x ∧ Q x) {p : PV} (h : ShR (.sl shs) p) {v : Value} (hr : Rep (cx0 w) gh0 w p v) :
    ∃ l : List α, Rep (cx0 w) gh0 w (.sl 1 shs.length l.length (fl e l)) v ∧ l.length ≤ maxLen ∧ ∀ x ∈ l, Q x := by
  cases h with
  | sl _ n f hn h1 h2 =>
    have hx : ∀ i, ∃ x, i < n → f i = e x ∧ Q x := fun i => by
      by_cases hi : i < n
      · obtain ⟨x, hx⟩ := hdec (f i) ⟨h1 i hi, fun j s p hs hp => h2 i j s p hi hs hp⟩
        exact ⟨x, fun _ => hx⟩
      · exact ⟨default, fun h => absurd h hi⟩
    let g : Nat → α := fun i => Classical.choose (hx i)
    have hg : ∀ i, i < n → f i = e (g i) ∧ Q (g i) := fun i => Classical.choose_spec (hx i)
    refine ⟨(List.range n).map g, hr.le0 hgl ?_, by simpa using hn, fun x hm => ?_⟩
    · refine ⟨Nat.le_refl _, rfl, by simp, fun i hi => ?_⟩
      rw [(hg i hi).1]
      simp [fl, List.getD_eq_getElem?_getD, hi]
    · obtain ⟨i, hi, rfl⟩ := List.mem_map.1 hm
      exact (hg i (List.mem_range.1 hi)).2
theorem sh_int {k : IntKind} {p : PV} (h : ShR (.int k) p) : ∃ n, p = .int k n ∧ inR k n := by cases h with | int _ n h => exact ⟨n, rfl, h⟩
theorem sh_bool {p : PV} (h : ShR .bool p) : ∃ b, p = .bool b := by cases h with | bool b => exact ⟨b, rfl⟩
theorem sh_str {p : PV} (h : ShR .str p) : ∃ s, p = .str s ∧ s.length ≤ maxLen := by cases h with | str s h => exact ⟨s, rfl, h⟩
theorem shl_cons {s : Sh} {ss : List Sh} {ps : List PV} (h : ShL (s :: ss) ps) : ∃ p qs, ps = p :: qs ∧ ShR s p ∧ ShL ss qs := by
  obtain ⟨h1, h2⟩ := h
  match ps, h1 with
  | p :: qs, h1 => exact ⟨p, qs, rfl, h2 0 s p rfl rfl, by simpa using h1, fun j s' p' hs hp => h2 (j + 1) s' p' (by simpa using hs) (by simpa using hp)⟩
theorem shl_nil {ps : List PV} (h : ShL [] ps) : ps = [] := List.eq_nil_of_length_eq_zero h.1
end
end Pv
end Go.Proofs.YtcfcmafmdpbjoaaDoor
/- A LAW's ROW, FROM ITS FUNCTION's CONTRACT: how long slices are that came in. -/
set_option linter.unusedSimpArgs false
set_option linter.unusedVariables false
namespace Go.Proofs.YtcfcmafmdpbjoaaDoor
namespace Pv
open Go.RowKit Go.ChangeShapes
section
variable {H : Type} {enc : TypeId × Value → H} {P : Program} {w : World} {sp : Nat → Bool} {held : Bool}
theorem sized_len {ts : List TypeId} {ds : List (DataW H)} (hz : (DataW.weightsEach P ts ds).all (· ≤ reachBytes) = true) {j : Nat} {t e : TypeId} {d : DataW H} {ps : List MemPlace} {a : Option Addr} {len cap : Nat}
    (ht : ts[j]? = some t) (hd : ds[j]? = some d) (hu : P.underlying t = some (.slice e)) (h : DataW.Trod enc P w 0 sp held t (.slice a len cap) d ps)
    (hb : 0 < P.bytesOf e) {X : Cx} {γ : Gh} {τ z n : Nat} {f : Nat → List PV} (hr : Rep X γ w (.sl τ z n f) (.slice a len cap)) : n ≤ 140737488351232 := by
  have hn : n = len := by cases hr; rfl
  subst hn
  obtain ⟨fuel, hf⟩ := h
  rcases DataW.trod_slice hu hf with ⟨h1, _⟩ | ⟨a', len', cap', elems, rest, m, _, h1, h2, _, _, _, h3, _⟩
  · have h1' : Value.slice a n cap = .slice none 0 0 := by simpa [Value.cells] using h1
    injection h1' with _ h4 _
    omega
  · have h1' : Value.slice a n cap = .slice (some a') len' cap' := by simpa [Value.cells] using h1
    injection h1' with _ h4 _
    injection h2 with h5 _
    subst h5
    have := sized_slice hz ht hd hu
    simp only [List.length_map] at this
    have h6 : n * 1 ≤ (elems.length + rest.length) * P.bytesOf e := Nat.mul_le_mul (by omega) hb
    have h7 : reachBytes = 140737488351232 := rfl
    omega
end
end Pv
end Go.Proofs.YtcfcmafmdpbjoaaDoor
/- A LAW's ROW, FROM ITS FUNCTION's CONTRACT: slices of slices that came in. -/
set_option linter.unusedSimpArgs false
set_option linter.unusedVariables false
namespace Go.Proofs.YtcfcmafmdpbjoaaDoor
namespace Pv
open Go.RowKit Go.ChangeShapes
section
variable {H : Type} {enc : TypeId × Value → H} {P : Program} {w : World} {sp : Nat → Bool} {held : Bool}
def eSl {α : Type} [Inhabited α] (k : Nat) (e : α → List PV) (m : List α) : List PV := [.sl 1 k m.length (fl e m)]
theorem sh_list2 (hgl : GlobOK w) {α : Type} [Inhabited α] (e : α → List PV) (Q : α → Prop) {shs : List Sh} (hdec : ∀ ps, ShL shs ps → ∃ x, ps = e x ∧ Q x) {p : PV} (h : ShR (.sl [.sl shs]) p) {v : Value} (hr : Rep (cx0 w) gh0 w p v) :
    ∃ G : List (List α), Rep (cx0 w) gh0 w (.sl 1 1 G.length (fl (eSl shs.length e) G)) v ∧ G.length ≤ maxLen ∧ ∀ m ∈ G, ∀ x ∈ m, Q x := by
  cases h with
  | sl _ n f hn h1 h2 =>
    have hx : ∀ i, ∃ m : List α, i < n → ∃ f', f i = [.sl 1 shs.length m.length f'] ∧ RowEq m.length f' (fl e m) ∧ ∀ x ∈ m, Q x := fun i => by
      by_cases hi : i < n
      · have hl := h1 i hi
        match hf : f i, hl with
        | [c], _ =>
          have hc := h2 i 0 (.sl shs) c hi rfl (by rw [hf]; rfl)
          cases hc with
          | sl _ n' f' hn' g1 g2 =>
            have hy : ∀ i, ∃ x, i < n' → f' i = e x ∧ Q x := fun j => by
              by_cases hj : j < n'
              · obtain ⟨x, hx⟩ := hdec (f' j) ⟨g1 j hj, fun k s p hs hp => g2 j k s p hj hs hp⟩
                exact ⟨x, fun _ => hx⟩
              · exact ⟨default, fun h => absurd h hj⟩
            refine ⟨(List.range n').map fun j => Classical.choose (hy j), fun _ => ⟨f', by simp, fun j hj => ?_, fun x hm => ?_⟩⟩
            · simp only [List.length_map, List.length_range] at hj
              rw [(Classical.choose_spec (hy j) hj).1]
              simp [fl, List.getD_eq_getElem?_getD, hj]
            · obtain ⟨j, hj, rfl⟩ := List.mem_map.1 hm
              exact (Classical.choose_spec (hy j) (List.mem_range.1 hj)).2
      · exact ⟨[], fun h => absurd h hi⟩
    let g : Nat → List α := fun i => Classical.choose (hx i)
    have hg : ∀ i, i < n → ∃ f', f i = [.sl 1 shs.length (g i).length f'] ∧ RowEq (g i).length f' (fl e (g i)) ∧ ∀ x ∈ g i, Q x := fun i => Classical.choose_spec (hx i)
    refine ⟨(List.range n).map g, ?_, by simpa using hn, fun m hm => ?_⟩
    · have hget : ∀ i, i < n → fl (eSl shs.length e) ((List.range n).map g) i = [.sl 1 shs.length (g i).length (fl e (g i))] := fun i hi => by
        simp [fl, eSl, List.getD_eq_getElem?_getD, hi]
      have hlen : ((List.range n).map g).length = n := by simp
      cases hr with
      | sl _ _ _ _ ad cap vs hcap hz hf hb hh =>
        rw [hlen]
        refine .sl 1 1 n _ ad cap vs hcap (fun i hi => by rw [hget i hi]; rfl) (fun i hi c hc => ?_) hb (fun i j c hi hc => ?_)
        · rw [hget i hi] at hc
          rw [List.mem_singleton.1 hc]; rfl
        · rw [hget i hi] at hc
          obtain ⟨f', e1, e2, _⟩ := hg i hi
          cases j with
          | zero =>
            simp only [List.getElem?_cons_zero, Option.some.injEq] at hc
            subst hc
            have := hh i 0 _ hi (by rw [e1]; rfl)
            exact this.le0 hgl ⟨Nat.le_refl _, rfl, rfl, e2⟩
          | succ j => simp at hc
    · obtain ⟨i, hi, rfl⟩ := List.mem_map.1 hm
      obtain ⟨_, _, _, h3⟩ := hg i (List.mem_range.1 hi)
      exact h3
theorem weightsAll_mem {e : TypeId} : ∀ {l : List (DataW H)} {i : Nat} {d : DataW H}, l[i]? = some d → ∀ n ∈ d.weights P e, n ∈ DataW.weightsAll P e l
  | [], i, d, h, n, hn => by simp at h
  | x :: l, 0, d, h, n, hn => by
    simp only [List.getElem?_cons_zero, Option.some.injEq] at h
    subst h
    simp only [DataW.weightsAll, List.mem_append]; exact .inl hn
  | x :: l, i + 1, d, h, n, hn => by
    simp only [DataW.weightsAll, List.mem_append]; exact .inr (weightsAll_mem (by simpa using h) n hn)
theorem sized_len2 {ts : List TypeId} {ds : List (DataW H)} (hz : (DataW.weightsEach P ts ds).all (· ≤ reachBytes) = true) {j : Nat} {t e e2 : TypeId} {d : DataW H} {ps : List MemPlace} {a : Option Addr} {len cap : Nat}
    (ht : ts[j]? = some t) (hd : ds[j]? = some d) (hu : P.underlying t = some (.slice e)) (hu2 : P.underlying e = some (.slice e2)) (hce : P.cellsOf e = 1) (h : DataW.Trod enc P w 0 sp held t (.slice a len cap) d ps)
    {X : Cx} {γ : Gh} {τ n : Nat} {F : Nat → List PV} (hr : Rep X γ w (.sl τ 1 n F) (.slice a len cap)) {i τ' z' N : Nat} {f' : Nat → List PV} (hi : i < n) (hF : F i = [.sl τ' z' N f']) : N * P.bytesOf e2 ≤ 140737488351232 := by
  have hreach : reachBytes = 140737488351232 := rfl
  cases hr with
  | sl _ _ _ _ _ _ vs hcap hz' hf hb hh =>
  obtain ⟨a', rfl, _, _, hcell⟩ := hb (by omega)
  obtain ⟨fuel, hfu⟩ := h
  rcases DataW.trod_slice hu hfu with ⟨h1, _⟩ | ⟨a'', len', cap', elems, rest, m, _, h1, h2, _, _, _, h3, h4, _⟩
  · simp [Value.cells] at h1
  · have h1' : Value.slice (some a') len cap = .slice (some a'') len' cap' := by simpa [Value.cells] using h1
    injection h1' with h5 h6 h7
    injection h5 with h5
    subst h5; subst h6
    injection h2 with h8 _
    subst h8
    have h9 := h4 i hi
    rw [List.getElem?_eq_getElem (by omega), hce, Nat.mul_one] at h9
    obtain ⟨cs', g1, g2⟩ := Option.bind_eq_some_iff.1 h9
    obtain ⟨_, k2, k3⟩ := World.cells?_some g1
    have k4 := k3 0 (by omega)
    have hv := cellT_cell (hcell i (by omega))
    rw [add_add_, Nat.add_zero, hv] at k4
    have hcs : cs' = [vs i] := by
      match cs', k2, k4 with
      | [x], _, k4 => simp only [List.getElem?_cons_zero, Option.some.injEq] at k4; rw [k4]
    have hrep := hh i 0 _ hi (by rw [hF]; rfl)
    rw [Nat.mul_one, Nat.add_zero] at hrep
    simp only [PV.mark] at hrep
    subst hcs
    generalize vs i = u at hrep g2
    cases hrep with
    | sl _ _ _ _ ad cap2 vs2 _ _ _ _ _ =>
    rcases DataW.trod_slice hu2 g2 with ⟨q1, _⟩ | ⟨b, len2, cap3, elems2, rest2, m2, _, q1, q2, _, _, _, q3, _⟩
    · have q1' : Value.slice ad N cap2 = .slice none 0 0 := by simpa using q1
      injection q1' with _ q5 _
      subst q5; rw [Nat.zero_mul]; exact Nat.zero_le _
    · have q1' : Value.slice ad N cap2 = .slice (some b) len2 cap3 := by simpa using q1
      injection q1' with _ q5 _
      subst q5
      have hmem : (elems2.map (·.1)).length * P.bytesOf e2 ≤ ((elems2.map (·.1)).length + (rest2.map (·.1)).length) * P.bytesOf e2 := Nat.mul_le_mul_right _ (by omega)
      have he : (elems.map (·.1))[i]? = some (DataW.slice (elems2.map (·.1)) (rest2.map (·.1))) := by
        rw [List.getElem?_map, List.getElem?_eq_getElem (by omega), Option.map_some, q2]
      have hw1 : ((elems2.map (·.1)).length + (rest2.map (·.1)).length) * P.bytesOf e2 ∈ DataW.weightsEach P ts ds := by
        refine DataW.weights_mem_each ht hd _ ?_
        simp only [DataW.weights, hu, List.mem_cons, List.mem_append]
        refine .inr (.inl (weightsAll_mem he _ ?_))
        simp [DataW.weights, hu2]
      have := List.all_eq_true.1 hz _ hw1
      have h10 : ((elems2.map (·.1)).length + (rest2.map (·.1)).length) * P.bytesOf e2 ≤ reachBytes := by simpa using this
      have h11 : (elems2.map (·.1)).length = N := by rw [List.length_map]; exact q3
      rw [h11] at hmem h10
      omega
end
end Pv
end Go.Proofs.YtcfcmafmdpbjoaaDoor
/- A NIL SLICE IN A FIELD of a box is an empty slice of the call's own. -/
set_option linter.unusedSimpArgs false
set_option linter.unusedVariables false
namespace Go.Proofs.YtcfcmafmdpbjoaaDoor
namespace Pv
open Go.RowKit
variable {P : Program} {wr : Bool} {np n : Nat} {c : C} {Q : Lv → PS → Prop}
theorem LSem.adoptF {fr : Nat → Option PV} {st : Nat → Option SE} {ok : Prop} {log : Nat → Option LogE} (r k R : Nat) (e : TypeId) (z z' : Nat) (l : List PV) (h1 : st r = some (.box l)) (hk : l[k]? = some (.nil z')) (h2 : st R = none)
    (h : LSem P wr np c Q ⟨n, fr, upd (upd st R (.row 0 e z 0 (fun _ => []))) r (.box (l.set k (.os R))), ok, log⟩) : LSem P wr np c Q ⟨n, fr, st, ok, log⟩ := by
  intro hQ code hc X w0 may a w γ hX hR
  have hne : r ≠ R := fun e => by rw [e, h2] at h1; cases h1
  let ge : GE := ⟨none, .slice none 0 0, z⟩
  have hE : EffOK X γ w st (Eff.pure (.os R)) (.slice none 0 0) w (upd γ R ge) (upd st R (.row 0 e z 0 (fun _ => []))) :=
    EffOK.add hR.st hR.hX h2 rfl (Keeps.refl _ _) (fun b hb => by rcases hb with hb | hb <;> cases hb) (fun _ => ⟨[], rfl, rfl, rfl, ⟨by simp, .inl ⟨rfl, rfl⟩⟩, by simp, fun i hi => by omega, fun i hi => by omega, fun i j c u hi => by omega⟩)
      (fun _ => .os R ge (upd_same _ _ _) rfl rfl)
  have hR2 : Rel X w0 may (a.put none (.slice none 0 0)) w ⟨n, fr, upd st R (.row 0 e z 0 (fun _ => [])), ok, log⟩ (upd γ R ge) :=
    hR.after (s' := ⟨n, fr, upd st R (.row 0 e z 0 (fun _ => [])), ok, log⟩) hE rfl fun t p hp => .inr ⟨by simp, p, hp, (void_nil p).symm⟩
  have hr1 : (upd st R (.row 0 e z 0 (fun _ => []))) r = some (.box l) := by rw [upd_ne _ _ hne]; exact h1
  refine h hQ code hc X w0 may a w (upd γ R ge) hX ⟨hR2.size, hR2.defers, hR2.fr, ?_, hR2.keeps, hR2.lo, hR2.own, hR2.asLt, fun q hq => ?_, hR2.mayP⟩
  · have hst := hR2.st
    refine ⟨fun q => ?_, fun q g en hg hen => ?_, hst.inj, hst.asOff, hst.lt, hst.glob⟩
    · have := hst.dom q
      by_cases hqr : q = r
      · subst hqr
        simp only [upd_same]
        simp only at this
        rw [this, hr1]; rfl
      · simp only [upd_ne _ _ hqr]; exact this
    · by_cases hqr : q = r
      · subst hqr
        simp only [upd_same, Option.some.injEq] at hen
        subst hen
        obtain ⟨b, g1, hbx⟩ := hst.at_ q g (.box l) hg hr1
        rcases hbx with ⟨T, vs, g3, g5, g4⟩ | ⟨ks, vks, ka, va, hh, ff, es, clock, hl, _⟩
        rotate_left
        · rw [hl] at hk
          match k, hk with
          | 0, hk => cases hk
          | k + 1, hk => simp at hk
        refine ⟨b, g1, .inl ⟨T, vs, g3, g5, by rw [List.length_set]; exact g4.1, fun j c u hc hu => ?_⟩⟩
        by_cases hj : j = k
        · subst hj
          have hlt : j < l.length := (List.getElem?_eq_some_iff.1 hk).1
          rw [List.getElem?_set_self hlt] at hc
          injection hc with hc; subst hc
          have := (g4.2 j _ u hk hu).nil_inv
          rw [this]
          exact .os R ge (upd_same _ _ _) rfl rfl
        · rw [List.getElem?_set_ne (by omega)] at hc
          exact g4.2 j c u hc hu
      · simp only [upd_ne _ _ hqr] at hen
        exact hst.at_ q g en hg hen
  · have := hR2.par q hq
    by_cases hqr : q = r
    · subst hqr
      simp only [upd_same]
      simp only at this
      rw [hr1] at this
      exact this
    · simp only [upd_ne _ _ hqr]; exact this
theorem LSem.untag {fr : Nat → Option PV} {st : Nat → Option SE} {ok : Prop} {log : Nat → Option LogE} (r τ : Nat) (e : TypeId) (f : Nat → List PV) (l : List Int) (h1 : st r = some (.row τ e 1 l.length f)) (hf : RowEq l.length f (fl (fun n : Int => [PV.int .i64 n]) l))
    (h : LSem P wr np c Q ⟨n, fr, upd st r (.row 0 e 1 l.length (fl (fun n : Int => [PV.int .i64 n]) l)), ok, log⟩) : LSem P wr np c Q ⟨n, fr, st, ok, log⟩ := by
  intro hQ code hc X w0 may a w γ hX hR
  refine h hQ code hc X w0 may a w γ hX ⟨hR.size, hR.defers, hR.fr, ?_, hR.keeps, hR.lo, hR.own, hR.asLt, fun q hq => ?_, hR.mayP⟩
  · have hst := hR.st
    refine ⟨fun q => ?_, fun q g en hg hen => ?_, hst.inj, hst.asOff, hst.lt, hst.glob⟩
    · have := hst.dom q
      by_cases hqr : q = r
      · subst hqr
        simp only [upd_same]
        simp only at this
        rw [this, h1]; rfl
      · simp only [upd_ne _ _ hqr]; exact this
    · by_cases hqr : q = r
      · subst hqr
        simp only [upd_same, Option.some.injEq] at hen
        subst hen
        obtain ⟨vs, g1, g2, g3, g4, g5, g6, g7, g8⟩ := hst.at_ q g _ hg h1
        refine ⟨vs, g1, g2, g3, g4, g5, fun i _ => rfl, fun i _ c hc => ?_, fun i j c u hi hc hu => ?_⟩
        · have : c = .int .i64 (l.getD i default) := by simpa [fl] using hc
          subst this; rfl
        · have hc2 : (f i)[j]? = some c := by rw [hf i hi]; exact hc
          have h9 := g8 i j c u hi hc2 hu
          have hj : j = 0 := by
            have := (List.getElem?_eq_some_iff.1 hc).1
            simp [fl] at this; omega
          subst hj
          have : c = .int .i64 (l.getD i default) := by
            have h0 : some (PV.int .i64 (l.getD i default)) = some c := hc
            injection h0 with h0; exact h0.symm
          subst this
          exact h9
      · simp only [upd_ne _ _ hqr] at hen
        exact hst.at_ q g en hg hen
  · have := hR.par q hq
    by_cases hqr : q = r
    · subst hqr
      simp only at this
      rw [h1] at this
      exact this.elim
    · simp only [upd_ne _ _ hqr]; exact this
end Pv
end Go.Proofs.YtcfcmafmdpbjoaaDoor
/- LAW 24, THE WALKS: the text of a table. -/
set_option linter.unusedSimpArgs false
set_option linter.unusedVariables false
namespace Go.Proofs.YtcfcmafmdpbjoaaDoor
namespace Pv
def c17L1 : C := (.seq (.reg [⟨(some 20), 320, none, .bi false .lss (.t 19) (.t 18)⟩])
  (.seq (.cond (.t 20) .skip (.exit 0))
  (.seq (.block 1 (.seq (.reg [⟨(some 21), 336, none, .mv (.t 19)⟩,
    ⟨(some 22), 352, none, .ia 1 (.t 17) (.t 19)⟩,
    ⟨(some 23), 368, none, .ld 1 false (.t 22)⟩,
    ⟨(some 6), 96, none, .mv (.t 21)⟩,
    ⟨(some 7), 112, none, .mv (.t 23)⟩])
  (.reg [⟨(some 24), 384, none, .mv (.t 7)⟩,
    ⟨(some 25), 400, none, .bs 3 1 [(.t 24)]⟩,
    ⟨(some 26), 416, none, .fa 2 (.t 1)⟩,
    ⟨(some 27), 432, none, .ld 1 false (.t 26)⟩,
    ⟨(some 28), 448, none, .mv (.t 6)⟩,
    ⟨(some 29), 464, none, .ia 1 (.t 27) (.t 28)⟩,
    ⟨(some 30), 480, none, .ld 1 false (.t 29)⟩,
    ⟨(some 31), 496, none, .app 3 1 8 (.t 25) (.t 30)⟩,
    ⟨(some 32), 512, none, .call (.c (.fn (.func 35) [] [])) [(.t 5), (.c (.str [108, 101, 118, 101, 108])), (.t 31)]⟩])))
  (.reg [⟨(some 33), 528, none, .bi false .add (.t 19) (.c (.int .i64 1))⟩,
    ⟨(some 19), 304, none, .mv (.t 33)⟩]))))
def c17 : C := (.seq (.reg [⟨(some 1), 16, none, .bx 3 (.t 0)⟩,
    ⟨(some 2), 32, none, .mv (.c (.str []))⟩,
    ⟨(some 3), 48, none, .mv (.c (.int .i64 0))⟩])
  (.seq (.seq (.reg [⟨(some 8), 128, none, .ld 3 true (.t 1)⟩,
    ⟨(some 9), 144, none, .call (.c (.fn (.func 22) [] [])) [(.t 8)]⟩,
    ⟨(some 4), 64, none, .mv (.t 9)⟩])
  (.seq (.reg [⟨(some 10), 160, none, .mv (.t 4)⟩,
    ⟨(some 11), 176, none, .bi false .neq (.t 10) (.c (.int .i64 0))⟩])
  (.cond (.t 11) (.seq (.reg [⟨(some 12), 192, none, .mv (.t 4)⟩,
    ⟨(some 2), 32, none, .mv (.c (.str []))⟩,
    ⟨(some 3), 48, none, .mv (.t 12)⟩])
  .ret) .skip)))
  (.seq (.reg [⟨(some 5), 80, none, .alb 66 5⟩])
  (.seq (.reg [⟨(some 13), 208, none, .fa 1 (.t 1)⟩,
    ⟨(some 14), 224, none, .ld 1 false (.t 13)⟩,
    ⟨(some 15), 240, none, .call (.c (.fn (.func 35) [] [])) [(.t 5), (.c (.str [105, 110, 102, 108, 111, 119])), (.t 14)]⟩])
  (.seq (.seq (.reg [⟨(some 16), 256, none, .fa 0 (.t 1)⟩,
    ⟨(some 17), 272, none, .ld 1 false (.t 16)⟩,
    ⟨(some 18), 288, none, .len (.t 17)⟩,
    ⟨(some 19), 304, none, .mv (.c (.int .i64 0))⟩])
  (.block 0 (.loop c17L1)))
  (.seq (.reg [⟨(some 34), 544, none, .call (.c (.fn (.func 36) [] [])) [(.t 5)]⟩,
    ⟨(some 2), 32, none, .mv (.t 34)⟩,
    ⟨(some 3), 48, none, .mv (.c (.int .i64 0))⟩])
  .ret))))))
theorem fits17 : fits Tryd.prog false Tryd.f17 1 35 [(2, none), (3, none)] = some c17.er := by kernel_rfl
def wInflow : List UInt8 := [105, 110, 102, 108, 111, 119]
def wLevel : List UInt8 := [108, 101, 118, 101, 108]
def levT (t : FT) : Nat → List UInt8
  | 0 => []
  | k + 1 => levT t k ++ lineF wLevel (t.lv.getD k default :: t.rel.getD k default)
def bodyT (t : FT) : List UInt8 := lineF wInflow t.inf ++ levT t t.lv.length
def formatF (t : FT) : List UInt8 × Int := if checkF t ≠ 0 then ([], checkF t) else (bodyT t, 0)
theorem fl_cons {α : Type} [Inhabited α] (e : α → List PV) (x : α) (l : List α) : RowEq (1 + l.length) (appF 1 (fun i => [e x].getD i []) (fl e l)) (fl e (x :: l)) := fun i hi => by
  unfold appF fl
  cases i with
  | zero => rfl
  | succ i => simp
theorem scan_all {f : Nat → Int} {n : Nat} (h : scan f 0 n = 0) : ∀ i, i < n → f i = 0 := fun i hi => scan_zero h i (Nat.zero_le _) (by omega)
theorem TabOK.cell {t : FT} (h : TabOK t) {i : Nat} (hi : i < t.rel.length) {k : Nat} (hk : k < (t.rel.getD i default).length) : 0 ≤ (t.rel.getD i default).getD k default ∧ (t.rel.getD i default).getD k default ≤ 1073741824 := by
  have h1 := h.e3 i hi
  unfold relE rowF at h1
  split at h1
  · cases h1
  · have h2 := scan_all h1 k hk
    unfold rowE at h2
    split at h2
    · cases h2
    · omega
theorem TabOK.lvr {t : FT} (h : TabOK t) {i : Nat} (hi : i < t.lv.length) : 0 ≤ t.lv.getD i default ∧ t.lv.getD i default ≤ 16777216 := by
  have h1 := h.r1 i hi
  unfold riseE at h1
  split at h1
  · cases h1
  · omega
theorem TabOK.infr {t : FT} (h : TabOK t) {i : Nat} (hi : i < t.inf.length) : 0 ≤ t.inf.getD i default ∧ t.inf.getD i default ≤ 1073741824 := by
  have h1 := h.r2 i hi
  unfold riseE at h1
  split at h1
  · cases h1
  · omega
theorem TabOK.iinf {t : FT} (h : TabOK t) : I64 t.inf := fun i hi => by have := h.infr hi; omega
theorem TabOK.irow {t : FT} (h : TabOK t) {i : Nat} (hi : i < t.lv.length) : I64 (t.lv.getD i default :: t.rel.getD i default) := fun k hk => by
  have hl := h.l3
  cases k with
  | zero =>
    have := h.lvr hi
    show _ ≤ t.lv.getD i default ∧ t.lv.getD i default ≤ _
    omega
  | succ k =>
    have := h.cell (i := i) (by omega) (k := k) (by simp only [List.length_cons] at hk; omega)
    show _ ≤ (t.rel.getD i default).getD k default ∧ (t.rel.getD i default).getD k default ≤ _
    omega
theorem lineF_len {w : List UInt8} {l : List Int} (hr : I64 l) : (lineF w l).length ≤ w.length + 22 * l.length + 1 := by
  have h := numsT_len hr l.length (Nat.le_refl _)
  rw [List.take_length] at h
  unfold lineF
  simp only [List.length_append, List.length_cons, List.length_nil]
  omega
theorem levT_len {t : FT} (h : TabOK t) : ∀ i, i ≤ t.lv.length → (levT t i).length ≤ 1000 * i
  | 0, _ => by simp [levT]
  | i + 1, hi => by
    have ih := levT_len h i (by omega)
    have h1 := lineF_len (w := wLevel) (h.irow (i := i) (by omega))
    have h2 := h.row (i := i) (by have := h.l3; omega)
    have h3 := h.l2
    unfold levT
    simp only [List.length_append, List.length_cons] at h1 ⊢
    have h4 : wLevel.length = 5 := rfl
    omega
theorem bodyT_ne (t : FT) : bodyT t ≠ [] := by simp [bodyT, lineF, wInflow]
set_option maxRecDepth 100000 in
set_option maxHeartbeats 8000000 in
theorem call17 (σ : Nat) (t : FT) (h1 : t.lv.length ≤ 4611686018427387904) (h2 : t.inf.length ≤ 4611686018427387904) (h3 : t.rel.length ≤ 4611686018427387904) (h4 : ∀ i, i < t.rel.length → (t.rel.getD i default).length ≤ 4611686018427387904) :
    PureCall Tryd.prog 17 [.agg (eFT (2) σ t)] [] ⟨.tup [.str (formatF t).1, .int .i64 (formatF t).2], [], []⟩ := by
  refine pure_call mix Tryd.func17 fits17 rfl ?_
  conv => whnf
  refine ⟨_, fun _ => call22 2 σ t h1 h2 h3 h4, ?_⟩
  have hok := check_ok (t := t)
  unfold formatF
  generalize checkF t = E at hok ⊢
  conv => whnf
  refine ⟨?_, fun hc => ?_, fun hc => ?_⟩
  · exact g0
  · simp only [bp] at hc
    rw [if_pos hc]
    conv => whnf
    refine ⟨?_, [], ?_⟩
    · exact g0
    conv => whnf
    refine ⟨rfl, ?_, trivial, trivial⟩
    all_goals repeat' (first | exact True.intro | refine leF_cons rfl ?_ ?_ | refine leS_cons rfl ?_ ?_ | (show PLe _ _ _ _; conv => whnf) | (show SLe _ _ _ _; conv => whnf) | (show PLeL _ _ _ _; conv => whnf) | apply And.intro | rfl | exact Nat.le_refl _ | exact fun _ _ => rfl | exact rowEq0 _ _)
  simp only [bp] at hc
  rw [if_neg (by omega)]
  have ht := hok (by omega)
  have hl1 := ht.l1
  have hl2 := ht.l2
  have hl3 := ht.l3
  have hinf := lineF_len (w := wInflow) ht.iinf
  have hw : wInflow.length = 6 := rfl
  have hw2 : wLevel.length = 5 := rfl
  conv => whnf
  refine ⟨_, fun _ => call35 2 [] wInflow t.inf ht.iinf (by simp only [List.length_nil]; omega), ?_⟩
  conv => whnf
  refine ⟨?_, ?_⟩
  · exact g0
  refine LSem.loop (n := 35) mix (α := Nat) (fun i => i ≤ t.lv.length)
    (fun i => [(1, .pt 16 0 0), (5, .pt 80 0 0), (17, .sl (2) 1 t.lv.length (fl eInt t.lv)), (18, .int .i64 t.lv.length), (19, .int .i64 i)])
    (fun i => [(16, .box [.sl (2) 1 t.lv.length (fl eInt t.lv), .sl (2) 1 t.inf.length (fl eInt t.inf), .sl (2) 1 t.rel.length (fl (eIs σ) t.rel)]), (80, .bld 66 5 (lineF wInflow t.inf ++ levT t i))]) (fun i => t.lv.length - i) 0 ?_ ?_ ?_
  · exact Nat.zero_le _
  · refine ⟨rfl, rfl, ?_, ?_⟩
    all_goals repeat' (first | exact True.intro | refine leF_cons rfl ?_ ?_ | refine leS_cons rfl ?_ ?_ | (show PLe _ _ _ _; conv => whnf) | (show SLe _ _ _ _; conv => whnf) | (show PLeL _ _ _ _; conv => whnf) | apply And.intro | rfl | exact Nat.le_refl _ | exact fun _ _ => rfl | exact rowEq0 _ _)
    all_goals first | (simp [levT]; done) | skip
  · intro i hi
    have hj : ((i : Int)).toNat = i := by omega
    have hlen := levT_len ht i hi
    conv => whnf
    refine ⟨trivial, fun hc => ?_, fun hc => ?_⟩
    · replace hc := of_decide_eq_true hc
      have hlt : i < t.lv.length := by
        have h : (i : Int) < t.lv.length := hc
        omega
      have hrow := ht.row (i := i) (by omega)
      have hi64 := ht.irow hlt
      conv => whnf
      refine ⟨_, fun _ => PureCall.arg_le (call35 2 (lineF wInflow t.inf ++ levT t i) wLevel (t.lv.getD i default :: t.rel.getD i default) hi64 (by simp only [List.length_append, List.length_cons]; omega)) rfl (by
        all_goals repeat' (first | exact True.intro | refine leF_cons rfl ?_ ?_ | refine leS_cons rfl ?_ ?_ | (show PLe _ _ _ _; conv => whnf) | (show SLe _ _ _ _; conv => whnf) | (show PLeL _ _ _ _; conv => whnf) | apply And.intro | rfl | exact Nat.le_refl _ | exact fun _ _ => rfl | exact rowEq0 _ _)
        · rw [hj]; show 1 + _ = (t.rel.getD i default).length + 1; omega
        · rw [hj]; exact fl_cons eInt _ _), ?_⟩
      conv => whnf
      refine ⟨?_, i + 1, hlt, ?_, rfl, rfl, ?_, ?_⟩
      · (try conv => whnf)
        rw [hj]
        repeat' (first | exact True.intro | exact fun _ h => h | refine inR64_of ?_ ?_ | apply And.intro | refine maxLen_ge ?_)
        all_goals (try simp only [List.length_cons, List.length_nil])
        all_goals omega
      · omega
      all_goals repeat' (first | exact True.intro | refine leF_cons rfl ?_ ?_ | refine leS_cons rfl ?_ ?_ | (show PLe _ _ _ _; conv => whnf) | (show SLe _ _ _ _; conv => whnf) | (show PLeL _ _ _ _; conv => whnf) | apply And.intro | rfl | exact Nat.le_refl _ | exact fun _ _ => rfl | exact rowEq0 _ _)
      all_goals first | omega | (simp only [levT, List.append_assoc]; done) | skip
    · replace hc := of_decide_eq_false hc
      have hk : i = t.lv.length := by
        have h : ¬ (i : Int) < t.lv.length := hc
        omega
      subst hk
      conv => whnf
      refine ⟨_, fun _ => call36 (bodyT t) (bodyT_ne t), ?_⟩
      conv => whnf
      refine ⟨?_, [], ?_⟩
      · exact g0
      conv => whnf
      refine ⟨rfl, ?_, trivial, trivial⟩
      all_goals repeat' (first | exact True.intro | refine leF_cons rfl ?_ ?_ | refine leS_cons rfl ?_ ?_ | (show PLe _ _ _ _; conv => whnf) | (show SLe _ _ _ _; conv => whnf) | (show PLeL _ _ _ _; conv => whnf) | apply And.intro | rfl | exact Nat.le_refl _ | exact fun _ _ => rfl | exact rowEq0 _ _)
end Pv
end Go.Proofs.YtcfcmafmdpbjoaaDoor
/- LAW 24, THE WALKS: numbers in texts. -/
set_option linter.unusedSimpArgs false
set_option linter.unusedVariables false
namespace Go.Proofs.YtcfcmafmdpbjoaaDoor
namespace Pv
def c49L1 : C := (.seq (.reg [⟨(some 27), 432, none, .bi false .lss (.t 26) (.t 25)⟩])
  (.seq (.cond (.t 27) .skip (.exit 0))
  (.seq (.block 1 (.seq (.reg [⟨(some 28), 448, none, .mv (.t 26)⟩,
    ⟨(some 5), 80, none, .mv (.t 28)⟩])
  (.seq (.seq (.reg [⟨(some 29), 464, none, .mv (.t 0)⟩,
    ⟨(some 30), 480, none, .mv (.t 5)⟩,
    ⟨(some 31), 496, none, .ixs (.t 29) (.t 30)⟩,
    ⟨(some 32), 512, none, .bi false .lss (.t 31) (.c (.int .u8 48))⟩,
    ⟨(some 33), 528, none, .mv (.t 32)⟩,
    ⟨(some 34), 544, (some (33, false)), .mv (.t 0)⟩,
    ⟨(some 35), 560, (some (33, false)), .mv (.t 5)⟩,
    ⟨(some 36), 576, (some (33, false)), .ixs (.t 34) (.t 35)⟩,
    ⟨(some 37), 592, (some (33, false)), .bi false .gtr (.t 36) (.c (.int .u8 57))⟩,
    ⟨(some 38), 608, none, .pick (.t 33) (.c (.bool true)) (.t 37)⟩])
  (.cond (.t 38) (.seq (.reg [⟨(some 2), 32, none, .mv (.c (.int .i64 0))⟩,
    ⟨(some 3), 48, none, .mv (.c (.bool false))⟩])
  .ret) .skip))
  (.reg [⟨(some 39), 624, none, .mv (.t 4)⟩,
    ⟨(some 40), 640, none, .bi false .mul (.c (.int .i64 10)) (.t 39)⟩,
    ⟨(some 41), 656, none, .mv (.t 0)⟩,
    ⟨(some 42), 672, none, .mv (.t 5)⟩,
    ⟨(some 43), 688, none, .ixs (.t 41) (.t 42)⟩,
    ⟨(some 44), 704, none, .bi false .sub (.t 43) (.c (.int .u8 48))⟩,
    ⟨(some 45), 720, none, .cv false .i64 (.t 44)⟩,
    ⟨(some 46), 736, none, .bi false .add (.t 40) (.t 45)⟩,
    ⟨(some 4), 64, none, .mv (.t 46)⟩]))))
  (.reg [⟨(some 47), 752, none, .bi false .add (.t 26) (.c (.int .i64 1))⟩,
    ⟨(some 26), 416, none, .mv (.t 47)⟩]))))
def c49 : C := (.seq (.reg [⟨(some 2), 32, none, .mv (.c (.int .i64 0))⟩,
    ⟨(some 3), 48, none, .mv (.c (.bool false))⟩])
  (.seq (.seq (.reg [⟨(some 6), 96, none, .mv (.t 0)⟩,
    ⟨(some 7), 112, none, .lens (.t 6)⟩,
    ⟨(some 8), 128, none, .bi false .lss (.t 7) (.c (.int .i64 1))⟩,
    ⟨(some 9), 144, none, .mv (.t 8)⟩,
    ⟨(some 10), 160, (some (9, false)), .mv (.t 0)⟩,
    ⟨(some 11), 176, (some (9, false)), .lens (.t 10)⟩,
    ⟨(some 12), 192, (some (9, false)), .bi false .gtr (.t 11) (.c (.int .i64 13))⟩,
    ⟨(some 13), 208, none, .pick (.t 9) (.c (.bool true)) (.t 12)⟩,
    ⟨(some 14), 224, none, .mv (.t 13)⟩,
    ⟨(some 15), 240, (some (14, false)), .mv (.t 0)⟩,
    ⟨(some 16), 256, (some (14, false)), .lens (.t 15)⟩,
    ⟨(some 17), 272, (some (14, false)), .bi false .gtr (.t 16) (.c (.int .i64 1))⟩,
    ⟨(some 18), 288, (some (14, false)), .mv (.t 17)⟩,
    ⟨(some 19), 304, (some (18, true)), .mv (.t 0)⟩,
    ⟨(some 20), 320, (some (18, true)), .ixs (.t 19) (.c (.int .i64 0))⟩,
    ⟨(some 21), 336, (some (18, true)), .bi false .eql (.t 20) (.c (.int .u8 48))⟩,
    ⟨(some 22), 352, (some (14, false)), .pick (.t 18) (.t 21) (.c (.bool false))⟩,
    ⟨(some 23), 368, none, .pick (.t 14) (.c (.bool true)) (.t 22)⟩])
  (.cond (.t 23) (.seq (.reg [⟨(some 2), 32, none, .mv (.c (.int .i64 0))⟩,
    ⟨(some 3), 48, none, .mv (.c (.bool false))⟩])
  .ret) .skip))
  (.seq (.reg [⟨(some 4), 64, none, .mv (.c (.int .i64 0))⟩])
  (.seq (.seq (.reg [⟨(some 24), 384, none, .mv (.t 0)⟩,
    ⟨(some 25), 400, none, .lens (.t 24)⟩,
    ⟨(some 26), 416, none, .mv (.c (.int .i64 0))⟩])
  (.block 0 (.loop c49L1)))
  (.seq (.reg [⟨(some 48), 768, none, .mv (.t 4)⟩,
    ⟨(some 2), 32, none, .mv (.t 48)⟩,
    ⟨(some 3), 48, none, .mv (.c (.bool true))⟩])
  .ret)))))
theorem fits49 : fits Tryd.prog false Tryd.f49 1 49 [(2, none), (3, none)] = some c49.er := by kernel_rfl
def digs : Int → List UInt8 → Option Int
  | a, [] => some a
  | a, c :: cs => if c.toNat < 48 ∨ 57 < c.toNat then none else digs (10 * a + ((c.toNat : Int) - 48)) cs
def numberF (s : List UInt8) : Option Int := if s.length < 1 ∨ 13 < s.length ∨ (1 < s.length ∧ (s.getD 0 0).toNat = 48) then none else digs 0 s
theorem digs_drop {s : List UInt8} {i : Nat} (a : Int) (h : i < s.length) : digs a (s.drop i) = if (s.getD i 0).toNat < 48 ∨ 57 < (s.getD i 0).toNat then none else digs (10 * a + (((s.getD i 0).toNat : Int) - 48)) (s.drop (i + 1)) := by
  rw [List.drop_eq_getElem_cons h]
  have : s.getD i 0 = s[i] := by simp [List.getD, h]
  rw [this]; rfl
set_option maxRecDepth 100000 in
set_option maxHeartbeats 8000000 in
theorem call49 (s : List UInt8) (hs : s.length ≤ 4611686018427387904) : PureCall Tryd.prog 49 [.str s] [] ⟨.tup [.int .i64 ((numberF s).getD 0), .bool (numberF s).isSome], [], []⟩ := by
  refine pure_call mix Tryd.func49 fits49 rfl ?_
  conv => whnf
  refine ⟨?_, fun hc => ?_, fun hc => ?_⟩
  · exact g0
  · simp only [bp] at hc
    have hn : numberF s = none := by unfold numberF; rw [if_pos (by omega)]
    rw [hn]
    conv => whnf
    refine ⟨?_, [], ?_⟩
    · exact g0
    conv => whnf
    refine ⟨rfl, ?_, trivial, trivial⟩
    all_goals repeat' (first | exact True.intro | refine leF_cons rfl ?_ ?_ | refine leS_cons rfl ?_ ?_ | (show PLe _ _ _ _; conv => whnf) | (show SLe _ _ _ _; conv => whnf) | (show PLeL _ _ _ _; conv => whnf) | apply And.intro | rfl | exact Nat.le_refl _ | exact fun _ _ => rfl | exact rowEq0 _ _)
  simp only [bp] at hc
  have hn : numberF s = digs 0 s := by unfold numberF; rw [if_neg (by omega)]
  have hl : 1 ≤ s.length ∧ s.length ≤ 13 := by omega
  rw [hn]
  clear hn hc hs
  conv => whnf
  refine ⟨?_, ?_⟩
  · exact g0
  refine LSem.loop (n := 49) mix (α := Nat × Int) (fun x => x.1 ≤ s.length ∧ digs x.2 (s.drop x.1) = digs 0 s ∧ 0 ≤ x.2 ∧ x.2 < (10 : Int) ^ x.1)
    (fun x => [(0, .str s), (4, .int .i64 x.2), (25, .int .i64 s.length), (26, .int .i64 x.1)])
    (fun x => []) (fun x => s.length - x.1) (0, 0) ?_ ?_ ?_
  · exact ⟨Nat.zero_le _, rfl, Int.le_refl _, by decide⟩
  · refine ⟨rfl, rfl, ?_, ?_⟩
    all_goals repeat' (first | exact True.intro | refine leF_cons rfl ?_ ?_ | refine leS_cons rfl ?_ ?_ | (show PLe _ _ _ _; conv => whnf) | (show SLe _ _ _ _; conv => whnf) | (show PLeL _ _ _ _; conv => whnf) | apply And.intro | rfl | exact Nat.le_refl _ | exact fun _ _ => rfl | exact rowEq0 _ _)
  · intro x hx
    obtain ⟨i, a⟩ := x
    obtain ⟨h1, h2, h3, h4⟩ := hx
    dsimp only at h1 h2 h3 h4
    have hj : ((i : Int)).toNat = i := by omega
    have hpow : (10 : Int) ^ i ≤ 10 ^ 13 := (show ∀ i : Nat, i < 14 → (10 : Int) ^ i ≤ 10 ^ 13 by decide) i (by omega)
    have hu1 : IntKind.u8.min = 0 := by decide
    have hu2 : IntKind.u8.max = 255 := by decide
    have hpow2 : (10 : Int) ^ (i + 1) = 10 * 10 ^ i := by rw [Int.pow_succ, Int.mul_comm]
    have hp13 : (10 : Int) ^ 13 = 10000000000000 := by decide
    rw [hp13] at hpow
    conv => whnf
    refine ⟨trivial, fun hc => ?_, fun hc => ?_⟩
    · replace hc := of_decide_eq_true hc
      have hlt : i < s.length := by
        have h : (i : Int) < s.length := hc
        omega
      have hd := digs_drop a hlt
      have hb : (s.getD i 0).toNat < 256 := UInt8.toNat_lt _
      conv => whnf
      refine ⟨?_, fun hc2 => ?_, fun hc2 => ?_⟩
      · exact g0
      · simp only [bp] at hc2
        rw [hj] at hc2
        have hd0 : digs 0 s = none := by rw [← h2, hd, if_pos (by omega)]
        rw [hd0]
        conv => whnf
        refine ⟨?_, [], ?_⟩
        · exact g0
        conv => whnf
        refine ⟨rfl, ?_, trivial, trivial⟩
        all_goals repeat' (first | exact True.intro | refine leF_cons rfl ?_ ?_ | refine leS_cons rfl ?_ ?_ | (show PLe _ _ _ _; conv => whnf) | (show SLe _ _ _ _; conv => whnf) | (show PLeL _ _ _ _; conv => whnf) | apply And.intro | rfl | exact Nat.le_refl _ | exact fun _ _ => rfl | exact rowEq0 _ _)
      · simp only [bp] at hc2
        rw [hj] at hc2
        rw [if_neg (by omega)] at hd
        conv => whnf
        refine ⟨?_, (i + 1, 10 * a + (((s.getD i 0).toNat : Int) - 48)), ⟨hlt, by rw [← hd]; exact h2, ?_, ?_⟩, ?_, rfl, rfl, ?_, ?_⟩
        · (try conv => whnf)
          rw [hj]
          (repeat' (first | exact True.intro | exact fun _ h => h | refine inR64_of ?_ ?_ | apply And.intro)) <;> (first | omega | (rw [hu1]; omega) | (rw [hu2]; omega))
        · dsimp only; omega
        · dsimp only; rw [hpow2]; omega
        · dsimp only; omega
        all_goals repeat' (first | exact True.intro | refine leF_cons rfl ?_ ?_ | refine leS_cons rfl ?_ ?_ | (show PLe _ _ _ _; conv => whnf) | (show SLe _ _ _ _; conv => whnf) | (show PLeL _ _ _ _; conv => whnf) | apply And.intro | rfl | exact Nat.le_refl _ | exact fun _ _ => rfl | exact rowEq0 _ _)
        all_goals first | omega | (rw [hj]; done) | skip
    · replace hc := of_decide_eq_false hc
      have hk : i = s.length := by
        have h : ¬ (i : Int) < s.length := hc
        omega
      subst hk
      rw [← h2, List.drop_length]
      conv => whnf
      refine ⟨?_, [], ?_⟩
      · exact g0
      conv => whnf
      refine ⟨rfl, ?_, trivial, trivial⟩
      all_goals repeat' (first | exact True.intro | refine leF_cons rfl ?_ ?_ | refine leS_cons rfl ?_ ?_ | (show PLe _ _ _ _; conv => whnf) | (show SLe _ _ _ _; conv => whnf) | (show PLeL _ _ _ _; conv => whnf) | apply And.intro | rfl | exact Nat.le_refl _ | exact fun _ _ => rfl | exact rowEq0 _ _)
end Pv
end Go.Proofs.YtcfcmafmdpbjoaaDoor
/- LAW 24, THE WALKS: the numbers of a line. -/
set_option linter.unusedSimpArgs false
set_option linter.unusedVariables false
namespace Go.Proofs.YtcfcmafmdpbjoaaDoor
namespace Pv
def c30L1 : C := (.seq (.reg [⟨(some 23), 368, none, .bi false .lss (.t 22) (.t 21)⟩])
  (.seq (.cond (.t 23) .skip (.exit 0))
  (.seq (.block 1 (.seq (.reg [⟨(some 24), 384, none, .ia 1 (.t 20) (.t 22)⟩,
    ⟨(some 25), 400, none, .ld 1 false (.t 24)⟩,
    ⟨(some 9), 144, none, .mv (.t 25)⟩])
  (.seq (.reg [⟨(some 27), 432, none, .mv (.t 9)⟩,
    ⟨(some 28), 448, none, .call (.c (.fn (.func 49) [] [])) [(.t 27)]⟩,
    ⟨(some 26), 416, none, .mv (.t 28)⟩,
    ⟨(some 29), 464, none, .ex (.t 26) 0⟩,
    ⟨(some 30), 480, none, .ex (.t 26) 1⟩,
    ⟨(some 10), 160, none, .mv (.t 29)⟩,
    ⟨(some 11), 176, none, .mv (.t 30)⟩])
  (.seq (.seq (.reg [⟨(some 31), 496, none, .mv (.t 11)⟩,
    ⟨(some 32), 512, none, .un false .not (.t 31)⟩])
  (.cond (.t 32) (.seq (.reg [⟨(some 4), 64, none, .mv (.c (.nil 1))⟩,
    ⟨(some 5), 80, none, .mv (.c (.bool false))⟩])
  .ret) .skip))
  (.reg [⟨(some 33), 528, none, .mv (.t 7)⟩,
    ⟨(some 34), 544, none, .mv (.t 10)⟩,
    ⟨(some 35), 560, none, .bs 3 1 [(.t 34)]⟩,
    ⟨(some 36), 576, none, .app 3 1 8 (.t 33) (.t 35)⟩,
    ⟨(some 7), 112, none, .mv (.t 36)⟩])))))
  (.reg [⟨(some 37), 592, none, .bi false .add (.t 22) (.c (.int .i64 1))⟩,
    ⟨(some 22), 352, none, .mv (.t 37)⟩]))))
def c30 : C := (.seq (.reg [⟨(some 4), 64, none, .mv (.c (.nil 1))⟩,
    ⟨(some 5), 80, none, .mv (.c (.bool false))⟩])
  (.seq (.reg [⟨(some 12), 192, none, .mv (.t 0)⟩,
    ⟨(some 13), 208, none, .call (.c (.fn (.func 32) [] [])) [(.t 12), (.c (.str [32]))]⟩,
    ⟨(some 6), 96, none, .mv (.t 13)⟩])
  (.seq (.seq (.reg [⟨(some 14), 224, none, .mv (.t 6)⟩,
    ⟨(some 15), 240, none, .ia 1 (.t 14) (.c (.int .i64 0))⟩,
    ⟨(some 16), 256, none, .ld 1 false (.t 15)⟩,
    ⟨(some 17), 272, none, .mv (.t 1)⟩,
    ⟨(some 18), 288, none, .bi false .neq (.t 16) (.t 17)⟩])
  (.cond (.t 18) (.seq (.reg [⟨(some 4), 64, none, .mv (.c (.nil 1))⟩,
    ⟨(some 5), 80, none, .mv (.c (.bool false))⟩])
  .ret) .skip))
  (.seq (.reg [⟨(some 7), 112, none, .mv (.c (.nil 1))⟩])
  (.seq (.seq (.reg [⟨(some 19), 304, none, .mv (.t 6)⟩,
    ⟨(some 20), 320, none, .slc 1 (.t 19) (some (.c (.int .i64 1))) none⟩,
    ⟨(some 21), 336, none, .len (.t 20)⟩,
    ⟨(some 22), 352, none, .mv (.c (.int .i64 0))⟩])
  (.block 0 (.loop c30L1)))
  (.seq (.reg [⟨(some 38), 608, none, .mv (.t 7)⟩,
    ⟨(some 4), 64, none, .mv (.t 38)⟩,
    ⟨(some 5), 80, none, .mv (.c (.bool true))⟩])
  .ret))))))
theorem fits30 : fits Tryd.prog false Tryd.f30 2 39 [(4, none), (5, none)] = some c30.er := by kernel_rfl
def mapNum : List (List UInt8) → Option (List Int)
  | [] => some []
  | w :: ws => match numberF w with
    | none => none
    | some n => (mapNum ws).map (n :: ·)
def numbersF (s word : List UInt8) : Option (List Int) := if (splitC 32 s).getD 0 default ≠ word then none else mapNum ((splitC 32 s).drop 1)
theorem mapNum_drop {l : List (List UInt8)} {i : Nat} (h : i < l.length) : mapNum (l.drop i) = match numberF (l.getD i default) with
    | none => none
    | some n => (mapNum (l.drop (i + 1))).map (n :: ·) := by
  rw [List.drop_eq_getElem_cons h]
  have : l.getD i default = l[i] := by simp [List.getD, h]
  rw [this]; rfl
theorem mapNum_len : ∀ {l : List (List UInt8)} {r : List Int}, mapNum l = some r → r.length = l.length
  | [], r, h => by simp [mapNum] at h; subst h; rfl
  | w :: ws, r, h => by
    simp only [mapNum] at h
    split at h
    · cases h
    · obtain ⟨r', h1, rfl⟩ := Option.map_eq_some_iff.1 h
      have := mapNum_len h1
      simp [this]
set_option maxRecDepth 100000 in
set_option maxHeartbeats 8000000 in
theorem call30 (s word : List UInt8) (hs : s.length < 4294967281) : PureCall Tryd.prog 30 [.str s, .str word] [] ⟨.tup [.sl 0 1 ((numbersF s word).getD []).length (fl eInt ((numbersF s word).getD [])), .bool (numbersF s word).isSome], [], []⟩ := by
  refine pure_call mix Tryd.func30 fits30 rfl ?_
  conv => whnf
  refine ⟨_, fun _ => call32 s 32 hs, ?_⟩
  have hL0 : 0 < (splitC 32 s).length := List.length_pos_iff.2 (splitC_ne 32 s)
  have hL1 := splitC_len 32 s
  unfold numbersF
  generalize splitC 32 s = L at hL0 hL1 ⊢
  conv => whnf
  refine ⟨?_, fun hc => ?_, fun hc => ?_⟩
  · exact g0
  · simp only [bp] at hc
    rw [if_pos hc]
    conv => whnf
    refine ⟨?_, [], ?_⟩
    · exact g0
    conv => whnf
    refine ⟨rfl, ?_, trivial, trivial⟩
    all_goals repeat' (first | exact True.intro | refine leF_cons rfl ?_ ?_ | refine leS_cons rfl ?_ ?_ | (show PLe _ _ _ _; conv => whnf) | (show SLe _ _ _ _; conv => whnf) | (show PLeL _ _ _ _; conv => whnf) | apply And.intro | rfl | exact Nat.le_refl _ | exact fun _ _ => rfl | exact rowEq0 _ _)
  simp only [bp] at hc
  rw [if_neg (fun h => h hc)]
  conv => whnf
  refine ⟨?_, ?_⟩
  · exact g0
  refine LSem.adopt 7 1000000 3 1 1 rfl rfl ?_
  refine LSem.loop (n := 39) mix (α := Nat × List Int) (fun x => x.1 + 1 ≤ L.length ∧ (mapNum (L.drop (x.1 + 1))).map (x.2 ++ ·) = mapNum (L.drop 1) ∧ x.2.length = x.1)
    (fun x => [(7, .os 1000000), (20, .vw false 208 1 (L.length - 1)), (21, .int .i64 (L.length - 1 : Nat)), (22, .int .i64 x.1)])
    (fun x => [(208, .row 0 9 1 L.length (fl eStr L)), (1000000, .row 0 3 1 x.2.length (fl eInt x.2))]) (fun x => L.length - x.1) (0, []) ?_ ?_ ?_
  · refine ⟨hL0, ?_, rfl⟩
    dsimp only
    cases mapNum (L.drop 1) <;> simp
  · refine ⟨rfl, rfl, ?_, ?_⟩
    all_goals repeat' (first | exact True.intro | refine leF_cons rfl ?_ ?_ | refine leS_cons rfl ?_ ?_ | (show PLe _ _ _ _; conv => whnf) | (show SLe _ _ _ _; conv => whnf) | (show PLeL _ _ _ _; conv => whnf) | apply And.intro | rfl | exact Nat.le_refl _ | exact fun _ _ => rfl | exact rowEq0 _ _)
  · intro x hx
    obtain ⟨i, l⟩ := x
    obtain ⟨h1, h2, h3⟩ := hx
    dsimp only at h1 h2 h3
    conv => whnf
    refine ⟨trivial, fun hc2 => ?_, fun hc2 => ?_⟩
    · replace hc2 := of_decide_eq_true hc2
      have hlt : i + 1 < L.length := by
        have h : (i : Int) < (L.length - 1 : Nat) := hc2
        omega
      have hj : 1 + ((i : Int)).toNat = i + 1 := by omega
      have hd := mapNum_drop hlt
      have hsz : (L.getD (i + 1) default).length ≤ 4611686018427387904 := by
        have := hL1.2 _ (getD_mem hlt)
        omega
      conv => whnf
      rw [hj]
      refine ⟨_, fun _ => call49 (L.getD (i + 1) default) hsz, ?_⟩
      generalize numberF (L.getD (i + 1) default) = N at hd
      cases N with
      | none =>
        conv => whnf
        refine ⟨?_, fun _ => ?_, fun h => absurd h (by decide)⟩
        · exact g0
        have hm : mapNum (L.drop 1) = none := by rw [← h2, hd]; rfl
        rw [hm]
        conv => whnf
        refine ⟨?_, [], ?_⟩
        · exact g0
        conv => whnf
        refine ⟨rfl, ?_, trivial, trivial⟩
        all_goals repeat' (first | exact True.intro | refine leF_cons rfl ?_ ?_ | refine leS_cons rfl ?_ ?_ | (show PLe _ _ _ _; conv => whnf) | (show SLe _ _ _ _; conv => whnf) | (show PLeL _ _ _ _; conv => whnf) | apply And.intro | rfl | exact Nat.le_refl _ | exact fun _ _ => rfl | exact rowEq0 _ _)
      | some n =>
        conv => whnf
        refine ⟨?_, fun h => absurd h Bool.false_ne_true, fun _ => ?_⟩
        · exact g0
        conv => whnf
        have q := fl_push eInt l n
        refine ⟨?_, (i + 1, l ++ [n]), ⟨hlt, ?_, ?_⟩, ?_, rfl, rfl, ?_, ?_⟩
        · exact g0
        · rw [← h2, hd]
          dsimp only
          rw [Option.map_map]
          congr 1
          funext x
          simp
        · dsimp only; rw [List.length_append, h3]; rfl
        · dsimp only; omega
        all_goals repeat' (first | exact True.intro | refine leF_cons rfl ?_ ?_ | refine leS_cons rfl ?_ ?_ | (show PLe _ _ _ _; conv => whnf) | (show SLe _ _ _ _; conv => whnf) | (show PLeL _ _ _ _; conv => whnf) | apply And.intro | rfl | exact Nat.le_refl _ | exact fun _ _ => rfl | exact rowEq0 _ _)
        all_goals first | omega | exact q | (simp only [List.length_append, List.length_cons, List.length_nil]; done) | skip
    · replace hc2 := of_decide_eq_false hc2
      have hk : i + 1 = L.length := by
        have h : ¬ (i : Int) < (L.length - 1 : Nat) := hc2
        omega
      have hm : mapNum (L.drop 1) = some l := by rw [← h2, hk, List.drop_length]; simp [mapNum]
      rw [hm]
      conv => whnf
      refine ⟨?_, [], ?_⟩
      · exact g0
      conv => whnf
      refine ⟨rfl, ?_, trivial, trivial⟩
      all_goals repeat' (first | exact True.intro | refine leF_cons rfl ?_ ?_ | refine leS_cons rfl ?_ ?_ | (show PLe _ _ _ _; conv => whnf) | (show SLe _ _ _ _; conv => whnf) | (show PLeL _ _ _ _; conv => whnf) | apply And.intro | rfl | exact Nat.le_refl _ | exact fun _ _ => rfl | exact rowEq0 _ _)
end Pv
end Go.Proofs.YtcfcmafmdpbjoaaDoor
/- THE LIBRARY's slices.Sort AT NUMBERS, as calls that write into a slice of the caller's own. -/
set_option linter.unusedSimpArgs false
set_option linter.unusedVariables false
namespace Go.Proofs.YtcfcmafmdpbjoaaDoor
namespace Pv
open Go.Sort Go.RowKit
theorem ints_holds {w : World} {g T cap : Nat} {l : List Int} (h : IntsIn w g T cap l) : Holds (Value.int .i64) w g 0 l.toArray ∧ g < w.heap.size := by
  obtain ⟨cur, fz, hg, hfz, hnc, hcm, hsz, htk⟩ := h
  rw [Nat.mul_one] at htk
  refine ⟨fun j hj => ?_, (Array.getElem?_eq_some_iff.1 hg).1⟩
  have hj' : j < l.length := by simpa using hj
  refine ⟨?_, ?_⟩
  · have h1 : (cur.toList.take l.length)[j]? = (l.map (Value.int .i64))[j]? := by rw [htk]
    rw [List.getElem?_take_of_lt hj'] at h1
    simp only [World.cell?, hg, Nat.zero_add]
    simp only [Option.isSome_none, Bool.false_eq_true, if_false]
    rw [← Array.getElem?_toList, h1]
    simp [hj']
  · obtain ⟨lo, hi⟩ := fz
    unfold fzOff at hfz
    simp only [World.frozen?, hg, Bool.and_eq_false_iff, decide_eq_false_iff_not]
    simp only at hfz
    omega
theorem ints_put {w : World} {g T cap n : Nat} {os : Array Obj} {l l' d : List Int} (h : IntsIn w g T cap l) (hd : d.length = l.length) (hp : d.take l'.length = l') : Keeps (· = g) w (grow (putRow (Value.int .i64) (Sort.ahead w n) g 0 d.toArray) os) ∧ IntsIn (grow (putRow (Value.int .i64) (Sort.ahead w n) g 0 d.toArray) os) g T cap l' := by
  obtain ⟨cur, fz, hg, hfz, hnc, hcm, hsz, htk⟩ := h
  have hgb := grownBy_sortedI (w := w) (g := g) (n := n) (os := os) d.toArray
  have hl' : l'.length ≤ d.length := by rw [← hp, List.length_take]; omega
  refine ⟨⟨hgb.os, hgb.tape, hgb.output, hgb.size, fun b hb hne => hgb.block b hb (fun h => hne (by injection h))⟩, _, fz, heap_sortedI _ hg, by simpa [putCells] using hfz, by omega, hcm, by simp [putCells, hsz], ?_⟩
  have := take_putCellsI cur d (by omega)
  rw [Nat.mul_one]
  rw [show l'.length = min l'.length d.length by omega, ← List.take_take, this, ← List.map_take, hp]
theorem sort_inplace (l : List Int) (hb : l.length < 4611686018427387904) : InPlace Tryd.prog 56 l (l.mergeSort fun x y => decide (x ≤ y)) false := by
  refine ⟨⟨_, Tryd.func56, rfl, rfl⟩, fun w g cap T h => ?_⟩
  obtain ⟨h1, h2⟩ := ints_holds h
  refine (Sh.slices_Sort_int g 0 cap l w h1 h2 hb).mono ?_
  rintro e w' ⟨he, n, os, rfl⟩
  have hlen : (l.mergeSort fun x y => decide (x ≤ y)).length = l.length := List.length_mergeSort ..
  obtain ⟨k1, k2⟩ := ints_put (n := n) (os := os) (d := l.mergeSort fun x y => decide (x ≤ y)) (l' := l.mergeSort fun x y => decide (x ≤ y)) h hlen (List.take_length ..)
  exact ⟨by rw [he]; rfl, k1, k2⟩
end Pv
end Go.Proofs.YtcfcmafmdpbjoaaDoor
/- THE LIBRARY's slices.Clone AT NUMBERS: its contract in the words of pure calls. -/
set_option linter.unusedSimpArgs false
set_option linter.unusedVariables false
namespace Go.Proofs.YtcfcmafmdpbjoaaDoor
namespace Pv
open Go.RowKit
theorem ints_vals {X : Cx} {γ : Gh} {w : World} {τ : Nat} {f : Nat → List PV} {l : List Int} {vs : List Value} (h5 : RowsRep X γ w τ 1 l.length f vs) (hf : RowEq l.length f (fl (fun n : Int => [PV.int .i64 n]) l)) : vs = l.map (Value.int .i64) := by
  refine List.ext_getElem? fun j => ?_
  have hlen : vs.length = l.length := by rw [h5.len, Nat.mul_one]
  by_cases hj : j < l.length
  · have hc : (f j)[0]? = some (.int .i64 (l.getD j default)) := by rw [hf j hj]; rfl
    have hu : vs[j]? = some (vs[j]'(by omega)) := List.getElem?_eq_getElem (by omega)
    have := h5.rep j 0 _ (vs[j]'(by omega)) hj hc (by rw [Nat.mul_one, Nat.add_zero]; exact hu)
    have hi : vs[j]'(by omega) = .int .i64 (l.getD j default) := by
      have h6 : Rep X γ w (.int .i64 (l.getD j default)) (vs[j]'(by omega)) := this
      exact h6.int_inv
    rw [hu, hi, List.getElem?_map, getD_some hj]; rfl
  · rw [List.getElem?_eq_none (by omega), List.getElem?_eq_none (by simp; omega)]
theorem ints_rows {X : Cx} {γ : Gh} {w : World} (l : List Int) : RowsRep X γ w 0 1 l.length (fl (fun n : Int => [PV.int .i64 n]) l) (l.map (Value.int .i64)) := by
  refine ⟨by simp, fun u hu => ?_, fun i hi => rfl, fun i hi c hc => ?_, fun i j c u hi hc hu => ?_⟩
  · obtain ⟨n, _, rfl⟩ := List.mem_map.1 hu; rfl
  · have : c = .int .i64 (l.getD i default) := by simpa [fl] using hc
    subst this; rfl
  · have hj : j = 0 := by
      have := (List.getElem?_eq_some_iff.1 hc).1
      simp [fl] at this; omega
    subst hj
    have : c = .int .i64 (l.getD i default) := by
      have h0 : some (PV.int .i64 (l.getD i default)) = some c := hc
      injection h0 with h0; exact h0.symm
    subst this
    rw [Nat.mul_one, Nat.add_zero, List.getElem?_map, getD_some hi] at hu
    injection hu with hu; subst hu
    exact .int _ _
theorem pure_new {P : Program} {f : FuncId} {τ e : Nat} {l l' : List Int} (hfn : ∃ fn, P.funcs[f]? = some fn ∧ fn.body.isSome = true ∧ (fn.name == "runtime.NumGoroutine") = false)
    (h : ∀ (w : World) (ad : Option Addr) (cap : Nat), l.length ≤ cap → (0 < l.length → ∃ b off, ad = some ⟨b, off, none⟩ ∧ ∀ j, j < l.length → w.cell? ⟨b, off + j, none⟩ = some (.int .i64 (l.getD j 0))) →
      Calls P f #[.slice ad l.length cap] w fun ev w' => ∃ v', ev = .returned v' ∧ w'.ownsRow w.heap.size e 1 v' l'.length (l'.map (Value.int .i64)) ∧ Keeps (fun _ => False) w w') :
    PureCall P f [.sl τ 1 l.length (fl (fun n : Int => [PV.int .i64 n]) l)] [] ⟨.os 1000000000, [], [.row 0 e 1 l'.length (fl (fun n : Int => [PV.int .i64 n]) l')]⟩ := by
  refine ⟨hfn, fun w γ as_ ls vals hst hX hargs => ?_⟩
  obtain ⟨v, us, rfl, hv, hus⟩ := hargs.cons_inv
  cases hus.nil_inv
  obtain ⟨ad, cap, vs, rfl, hcap, hr, hor, hcell⟩ := sl_rows hv
  have hvs := ints_vals hr (fun _ _ => rfl)
  subst hvs
  refine (h w ad cap hcap (fun h0 => ?_)).mono ?_
  · rcases hor with h1 | ⟨a, rfl, hm, hlt⟩
    · omega
    · have hc := hcell a rfl
      obtain ⟨b, off, sp⟩ := a
      have h1 := hc 0 (.int .i64 (l.getD 0 default)) (by rw [List.getElem?_map, getD_some h0]; rfl)
      have hsp : sp = none := by
        simp only [Addr.add, if_pos] at h1
        unfold World.cell? at h1
        simp only at h1
        split at h1
        · cases sp with
          | none => rfl
          | some _ => simp at h1
        · cases h1
      subst hsp
      refine ⟨b, off, rfl, fun j hj => ?_⟩
      have h2 := hc j (.int .i64 (l.getD j default)) (by rw [List.getElem?_map, getD_some hj]; rfl)
      by_cases hj0 : j = 0
      · subst hj0; simpa [Addr.add] using h2
      · simpa [Addr.add, hj0] using h2
  · rintro ev w' ⟨v', he, ho, hk⟩
    have ho0 : OwnsG w' e 1 v' l'.length (l'.map (Value.int .i64)) := OwnsG_of ho
    have hone : v'.oneCell' = true := slice_one ho0
    have hblk : ∀ b, v'.ownBlock = some b → w.heap.size ≤ b ∧ b < w'.heap.size := fun b hb => by
      refine ⟨?_, own_lt' ho0 b hb⟩
      rcases ho.2 with ⟨h0, _⟩ | ⟨g, cap, cur, h0, h1, _⟩
      · subst h0; cases hb
      · subst h0; injection hb with hb; subst hb; exact h1
    have hnone : ∀ r, γ r = none := fun r => by
      have := hst.dom r
      simp at this
      exact this
    refine ⟨v', fun r => if r = 1000000000 then some ⟨v'.ownBlock, v', 1⟩ else none, he, .os _ ⟨v'.ownBlock, v', 1⟩ (by simp) hone rfl, ?_, ⟨hk.os, hk.tape, hk.output, hk.size, fun b hb _ => hk.block b hb (fun h => h)⟩, fun r hr => by simp [nbx] at hr, fun r ge b hr hb => ?_⟩
    · refine ⟨fun r => ?_, fun r ge se hr hs => ?_, fun r r' ge ge' b hr hr' _ _ => ?_, fun b ⟨r, ge, hr, hb⟩ => ?_, fun b ⟨r, ge, hr, hb⟩ => ?_, ?_⟩
      rotate_right
      · refine glob_keep hst.glob (fun b hlt _ => hk.block b hlt (fun h => h)) (fun b ⟨r, ge, hr, hb⟩ => ?_)
        by_cases h : r = 1000000000
        · simp only [h, if_true, Option.some.injEq] at hr
          subst hr
          exact .inr (hblk b ((GE.has_row rfl).1 hb)).1
        · simp only [h, if_false] at hr; cases hr
      · by_cases h : r = 1000000000
        · subst h; simp [resSt, newBase]
        · simp only [h, if_false, resSt]
          by_cases h2 : newBase ≤ r
          · have : 1 ≤ r - newBase := by unfold newBase at *; omega
            rw [if_pos h2, List.getElem?_eq_none (by simpa using this)]; rfl
          · rw [if_neg h2]; simp
      · by_cases h : r = 1000000000
        · subst h
          simp only [if_true, Option.some.injEq] at hr
          subst hr
          simp [resSt, newBase] at hs
          subst hs
          exact (ints_rows l').repS rfl rfl hone ho0
        · simp only [h, if_false] at hr; cases hr
      · by_cases h : r = 1000000000
        · by_cases h' : r' = 1000000000
          · rw [h, h']
          · simp only [h', if_false] at hr'; cases hr'
        · simp only [h, if_false] at hr; cases hr
      · by_cases h : r = 1000000000
        · simp only [h, if_true, Option.some.injEq] at hr
          subst hr
          have := (hblk b ((GE.has_row rfl).1 hb)).1
          exact ⟨fun ha => by have := hX b (.inl ha); omega, fun ha => by have := hX b (.inr ha); omega⟩
        · simp only [h, if_false] at hr; cases hr
      · by_cases h : r = 1000000000
        · simp only [h, if_true, Option.some.injEq] at hr
          subst hr
          exact (hblk b ((GE.has_row rfl).1 hb)).2
        · simp only [h, if_false] at hr; cases hr
    · by_cases h : r = 1000000000
      · simp only [h, if_true, Option.some.injEq] at hr
        subst hr
        exact .inl (hblk b ((GE.has_row rfl).1 hb)).1
      · simp only [h, if_false] at hr; cases hr
theorem call_clone (τ : Nat) (l : List Int) (hl : l.length * 8 ≤ 140737488355328) : PureCall Tryd.prog 31 [.sl τ 1 l.length (fl (fun n : Int => [PV.int .i64 n]) l)] [] ⟨.os 1000000000, [], [.row 0 3 1 l.length (fl (fun n : Int => [PV.int .i64 n]) l)]⟩ := by
  have hbel : ∀ {w w' : World}, Below w.heap.size w w' → Keeps (fun _ => False) w w' := fun {w w'} hb => ⟨hb.os, hb.tape, hb.output, hb.size, fun b hb' _ => hb.block b hb'⟩
  refine pure_new ⟨_, Tryd.func31, rfl, rfl⟩ fun w ad cap hcap hc => ?_
  by_cases h0 : 0 < l.length
  · obtain ⟨b, off, rfl, hcell⟩ := hc h0
    refine (Sh.slices_Clone_int b off l.length cap l w (Nat.le_refl _) hl hcell).mono ?_
    rintro ev w' ⟨v', he, ho, _, hb⟩
    rw [List.take_length] at ho
    exact ⟨v', he, ho, hbel hb⟩
  · have hl0 : l = [] := List.eq_nil_of_length_eq_zero (by omega)
    subst hl0
    cases ad with
    | none =>
      refine (Sh.slices_Clone_int_nil 0 cap w).mono ?_
      rintro ev w' ⟨he, rfl⟩
      exact ⟨_, he, ⟨rfl, .inl ⟨rfl, rfl⟩⟩, Keeps.refl _ _⟩
    | some a =>
      refine (Sh.slices_Clone_int_zero a cap w).mono ?_
      rintro ev w' ⟨v', he, ho, _, hb⟩
      exact ⟨v', he, ho, hbel hb⟩
end Pv
end Go.Proofs.YtcfcmafmdpbjoaaDoor
/- LAW 24, THE WALKS: texts are read. -/
set_option linter.unusedSimpArgs false
set_option linter.unusedVariables false
namespace Go.Proofs.YtcfcmafmdpbjoaaDoor
namespace Pv
def c14L1 : C := (.seq (.seq (.reg [⟨(some 14), 224, none, .mv (.t 6)⟩,
    ⟨(some 15), 240, none, .bi false .eql (.t 14) (.c (.int .i64 1))⟩,
    ⟨(some 16), 256, none, .mv (.t 15)⟩,
    ⟨(some 17), 272, (some (16, false)), .mv (.t 0)⟩,
    ⟨(some 18), 288, (some (16, false)), .bi false .neq (.t 17) (.c (.str []))⟩,
    ⟨(some 19), 304, none, .pick (.t 16) (.c (.bool true)) (.t 18)⟩])
  (.cond (.t 19) .skip (.exit 0)))
  (.seq (.block 1 (.seq (.reg [⟨(some 23), 368, none, .mv (.t 0)⟩,
    ⟨(some 24), 384, none, .call (.c (.fn (.func 29) [] [])) [(.t 23), (.c (.str [10]))]⟩,
    ⟨(some 22), 352, none, .mv (.t 24)⟩,
    ⟨(some 25), 400, none, .ex (.t 22) 0⟩,
    ⟨(some 26), 416, none, .ex (.t 22) 1⟩,
    ⟨(some 27), 432, none, .ex (.t 22) 2⟩,
    ⟨(some 7), 112, none, .mv (.t 25)⟩,
    ⟨(some 8), 128, none, .mv (.t 26)⟩,
    ⟨(some 9), 144, none, .mv (.t 27)⟩])
  (.seq (.seq (.reg [⟨(some 28), 448, none, .mv (.t 9)⟩,
    ⟨(some 29), 464, none, .un false .not (.t 28)⟩])
  (.cond (.t 29) (.seq (.reg [⟨(some 30), 480, none, .bd [(.nil 1), (.nil 1), (.nil 1)] []⟩,
    ⟨(some 31), 496, none, .mv (.t 6)⟩,
    ⟨none, 0, none, .st 3 (.t 2) (.t 30)⟩,
    ⟨(some 3), 48, none, .mv (.t 31)⟩,
    ⟨(some 4), 64, none, .mv (.c (.int .i64 7))⟩])
  .ret) .skip))
  (.seq (.reg [⟨(some 32), 512, none, .mv (.t 8)⟩,
    ⟨(some 0), 0, none, .mv (.t 32)⟩])
  (.seq (.seq (.reg [⟨(some 33), 528, none, .mv (.t 6)⟩,
    ⟨(some 34), 544, none, .bi false .eql (.t 33) (.c (.int .i64 1))⟩])
  (.cond (.t 34) (.seq (.reg [⟨(some 36), 576, none, .mv (.t 7)⟩,
    ⟨(some 37), 592, none, .call (.c (.fn (.func 30) [] [])) [(.t 36), (.c (.str [105, 110, 102, 108, 111, 119]))]⟩,
    ⟨(some 35), 560, none, .mv (.t 37)⟩,
    ⟨(some 38), 608, none, .ex (.t 35) 0⟩,
    ⟨(some 39), 624, none, .ex (.t 35) 1⟩,
    ⟨(some 10), 160, none, .mv (.t 38)⟩,
    ⟨(some 11), 176, none, .mv (.t 39)⟩])
  (.seq (.seq (.reg [⟨(some 40), 640, none, .mv (.t 11)⟩,
    ⟨(some 41), 656, none, .un false .not (.t 40)⟩])
  (.cond (.t 41) (.seq (.reg [⟨(some 42), 672, none, .bd [(.nil 1), (.nil 1), (.nil 1)] []⟩,
    ⟨(some 43), 688, none, .mv (.t 6)⟩,
    ⟨none, 0, none, .st 3 (.t 2) (.t 42)⟩,
    ⟨(some 3), 48, none, .mv (.t 43)⟩,
    ⟨(some 4), 64, none, .mv (.c (.int .i64 7))⟩])
  .ret) .skip))
  (.seq (.reg [⟨(some 44), 704, none, .mv (.t 10)⟩,
    ⟨(some 45), 720, none, .fa 1 (.t 5)⟩,
    ⟨none, 0, none, .st 1 (.t 45) (.t 44)⟩])
  (.exit 1)))) .skip))
  (.seq (.reg [⟨(some 47), 752, none, .mv (.t 7)⟩,
    ⟨(some 48), 768, none, .call (.c (.fn (.func 30) [] [])) [(.t 47), (.c (.str [108, 101, 118, 101, 108]))]⟩,
    ⟨(some 46), 736, none, .mv (.t 48)⟩,
    ⟨(some 49), 784, none, .ex (.t 46) 0⟩,
    ⟨(some 50), 800, none, .ex (.t 46) 1⟩,
    ⟨(some 12), 192, none, .mv (.t 49)⟩,
    ⟨(some 13), 208, none, .mv (.t 50)⟩])
  (.seq (.seq (.reg [⟨(some 51), 816, none, .mv (.t 13)⟩,
    ⟨(some 52), 832, none, .un false .not (.t 51)⟩,
    ⟨(some 53), 848, none, .mv (.t 52)⟩,
    ⟨(some 54), 864, (some (53, false)), .mv (.t 12)⟩,
    ⟨(some 55), 880, (some (53, false)), .len (.t 54)⟩,
    ⟨(some 56), 896, (some (53, false)), .bi false .lss (.t 55) (.c (.int .i64 1))⟩,
    ⟨(some 57), 912, none, .pick (.t 53) (.c (.bool true)) (.t 56)⟩])
  (.cond (.t 57) (.seq (.reg [⟨(some 58), 928, none, .bd [(.nil 1), (.nil 1), (.nil 1)] []⟩,
    ⟨(some 59), 944, none, .mv (.t 6)⟩,
    ⟨none, 0, none, .st 3 (.t 2) (.t 58)⟩,
    ⟨(some 3), 48, none, .mv (.t 59)⟩,
    ⟨(some 4), 64, none, .mv (.c (.int .i64 7))⟩])
  .ret) .skip))
  (.drw [⟨(some 60), 960, none, .fa 0 (.t 5)⟩,
    ⟨(some 61), 976, none, .ld 1 false (.t 60)⟩,
    ⟨(some 62), 992, none, .mv (.t 12)⟩,
    ⟨(some 63), 1008, none, .ia 1 (.t 62) (.c (.int .i64 0))⟩,
    ⟨(some 64), 1024, none, .ld 1 false (.t 63)⟩,
    ⟨(some 65), 1040, none, .bs 3 1 [(.t 64)]⟩,
    ⟨(some 66), 1056, none, .app 3 1 8 (.t 61) (.t 65)⟩,
    ⟨(some 67), 1072, none, .fa 2 (.t 5)⟩,
    ⟨(some 68), 1088, none, .ld 1 false (.t 67)⟩,
    ⟨(some 69), 1104, none, .mv (.t 12)⟩,
    ⟨(some 70), 1120, none, .slc 1 (.t 69) (some (.c (.int .i64 1))) none⟩,
    ⟨(some 71), 1136, none, .call (.c (.fn (.func 31) [] [])) [(.t 70)]⟩,
    ⟨(some 72), 1152, none, .bs 22 1 [(.t 71)]⟩,
    ⟨(some 73), 1168, none, .app 22 1 24 (.t 68) (.t 72)⟩,
    ⟨(some 74), 1184, none, .fa 0 (.t 5)⟩,
    ⟨none, 0, none, .st 1 (.t 74) (.t 66)⟩,
    ⟨(some 75), 1200, none, .fa 2 (.t 5)⟩,
    ⟨none, 0, none, .st 1 (.t 75) (.t 73)⟩]
    [(0, 2, 60), (0, 3, 60), (0, 4, 60), (0, 5, 60), (0, 7, 60), (0, 8, 60), (0, 9, 60), (0, 10, 60), (1, 2, 61), (1, 3, 61), (1, 4, 61), (1, 5, 61), (1, 7, 61), (1, 8, 61), (1, 9, 61), (1, 10, 61), (2, 7, 62), (2, 8, 62), (2, 9, 62), (2, 10, 62), (3, 7, 63), (3, 8, 63), (3, 9, 63), (3, 10, 63), (4, 7, 64), (4, 8, 64), (4, 9, 64), (4, 10, 64), (5, 7, 65), (5, 8, 65), (5, 9, 65), (5, 10, 65), (6, 7, 66), (6, 8, 66), (6, 9, 66), (6, 10, 66), (7, 9, 67), (7, 10, 67), (7, 11, 67), (7, 12, 67), (8, 9, 68), (8, 10, 68), (8, 11, 68), (8, 12, 68), (9, 14, 69), (10, 14, 70), (11, 14, 71), (12, 14, 72), (13, 14, 73)]))))))))
  (.reg [⟨(some 20), 320, none, .mv (.t 6)⟩,
    ⟨(some 21), 336, none, .bi false .add (.t 20) (.c (.int .i64 1))⟩,
    ⟨(some 6), 96, none, .mv (.t 21)⟩])))
def c14 : C := (.seq (.reg [⟨(some 2), 32, none, .al [(.nil 1), (.nil 1), (.nil 1)]⟩,
    ⟨(some 3), 48, none, .mv (.c (.int .i64 0))⟩,
    ⟨(some 4), 64, none, .mv (.c (.int .i64 0))⟩])
  (.seq (.reg [⟨(some 5), 80, none, .al [(.nil 1), (.nil 1), (.nil 1)]⟩])
  (.seq (.seq (.reg [⟨(some 6), 96, none, .mv (.c (.int .i64 1))⟩])
  (.block 0 (.loop c14L1)))
  (.seq (.drw [⟨(some 76), 1216, none, .ld 3 true (.t 5)⟩,
    ⟨(some 77), 1232, none, .ld 3 true (.t 5)⟩,
    ⟨(some 78), 1248, none, .call (.c (.fn (.func 22) [] [])) [(.t 77)]⟩,
    ⟨none, 0, none, .st 3 (.t 2) (.t 76)⟩,
    ⟨(some 3), 48, none, .mv (.c (.int .i64 0))⟩,
    ⟨(some 4), 64, none, .mv (.t 78)⟩]
    [(0, 1, 76), (0, 2, 76)])
  .ret))))
theorem fits14 : fits Tryd.prog false Tryd.f14 1 79 [(2, some (3, true)), (3, none), (4, none)] = some c14.er := by kernel_rfl
def FT0 : FT := ⟨[], [], []⟩
def pLines : Nat → List (List UInt8) → FT → FT × Int × Int
  | _, [], t => (t, 0, checkF t)
  | n, [x], t => if n = 1 ∨ x ≠ [] then (FT0, n, 7) else (t, 0, checkF t)
  | n, x :: y :: r, t => if n = 1 then match numbersF x wInflow with
      | none => (FT0, n, 7)
      | some l => pLines 2 (y :: r) ⟨t.lv, l, t.rel⟩
    else match numbersF x wLevel with
      | none => (FT0, n, 7)
      | some [] => (FT0, n, 7)
      | some (a :: l) => pLines (n + 1) (y :: r) ⟨t.lv ++ [a], t.inf, t.rel ++ [l]⟩
def parseF (s : List UInt8) : FT × Int × Int := pLines 1 (splitC 10 s) FT0
theorem pLines_cons {n : Nat} {x : List UInt8} {r : List (List UInt8)} {t : FT} (h : r ≠ []) : pLines n (x :: r) t = if n = 1 then match numbersF x wInflow with
      | none => (FT0, n, 7)
      | some l => pLines 2 r ⟨t.lv, l, t.rel⟩
    else match numbersF x wLevel with
      | none => (FT0, n, 7)
      | some [] => (FT0, n, 7)
      | some (a :: l) => pLines (n + 1) r ⟨t.lv ++ [a], t.inf, t.rel ++ [l]⟩ := by
  cases r with
  | nil => exact absurd rfl h
  | cons y r => rfl
theorem numbersF_len {s w : List UInt8} {l : List Int} (h : numbersF s w = some l) : l.length ≤ s.length := by
  unfold numbersF at h
  split at h
  · cases h
  · have := mapNum_len h
    have h2 := (splitC_len 32 s).1
    rw [this, List.length_drop]; omega
theorem cond1 {n : Nat} {s : List UInt8} {b : Bool} (h : (bif ((n : Int) == 1) then true else !(s == [])) = b) : (n = 1 ∨ s ≠ []) ↔ b = true := by
  subst h
  cases h : ((n : Int) == 1) with
  | true => have := beq_iff_eq.1 h; simp; omega
  | false =>
    have : n ≠ 1 := fun e => by rw [e] at h; simp at h
    simp [this]
structure PInv (s0 : List UInt8) (n : Nat) (s : List UInt8) (t : FT) : Prop where
  h1 : 1 ≤ n
  eq : pLines n (splitC 10 s) t = parseF s0
  ln : n + (splitC 10 s).length ≤ s0.length + 3
  sl : s.length ≤ s0.length
  lv : t.lv.length ≤ n
  rl : t.rel.length ≤ n
  inf : t.inf.length ≤ s0.length
  row : ∀ i, i < t.rel.length → (t.rel.getD i default).length ≤ s0.length
set_option maxRecDepth 100000 in
set_option maxHeartbeats 16000000 in
theorem call14 (s0 : List UInt8) (hs : s0.length < 4294967281) : PureCall Tryd.prog 14 [.str s0] [] ⟨.tup [.agg (eFT 0 0 (parseF s0).1), .int .i64 (parseF s0).2.1, .int .i64 (parseF s0).2.2], [], []⟩ := by
  refine pure_call mix Tryd.func14 fits14 rfl ?_
  conv => whnf
  refine ⟨trivial, ?_⟩
  refine LSem.adoptF 80 0 1000000 3 1 1 _ rfl rfl rfl ?_
  refine LSem.adoptF 80 2 1000001 22 1 1 _ rfl rfl rfl ?_
  refine LSem.loop (n := 79) mix (α := Nat × List UInt8 × FT) (fun x => PInv s0 x.1 x.2.1 x.2.2)
    (fun x => [(0, .str x.2.1), (2, .pt 32 0 0), (5, .pt 80 0 0), (6, .int .i64 x.1)])
    (fun x => [(32, .box [.nil 1, .nil 1, .nil 1]), (80, .box [.os 1000000, .sl 0 1 x.2.2.inf.length (fl eInt x.2.2.inf), .os 1000001]), (1000000, .row 0 3 1 x.2.2.lv.length (fl eInt x.2.2.lv)), (1000001, .row 0 22 1 x.2.2.rel.length (fl (eIs 0) x.2.2.rel))])
    (fun x => (splitC 10 x.2.1).length) (1, s0, FT0) ?_ ?_ ?_
  · have := (splitC_len 10 s0).1
    exact ⟨Nat.le_refl _, rfl, by dsimp only; omega, Nat.le_refl _, Nat.zero_le _, Nat.zero_le _, Nat.zero_le _, fun i hi => absurd hi (Nat.not_lt_zero _)⟩
  · refine ⟨rfl, rfl, ?_, ?_⟩
    all_goals repeat' (first | exact True.intro | refine leF_cons rfl ?_ ?_ | refine leS_cons rfl ?_ ?_ | (show PLe _ _ _ _; conv => whnf) | (show SLe _ _ _ _; conv => whnf) | (show PLeL _ _ _ _; conv => whnf) | apply And.intro | rfl | exact Nat.le_refl _ | exact fun _ _ => rfl | exact rowEq0 _ _)
  · intro x hx
    obtain ⟨n, s, t⟩ := x
    dsimp only at hx
    have hbr := splitC_brk 10 s
    have hlen := brkC_len 10 s
    have hsn := hx.sl
    have hln := hx.ln
    have heq := hx.eq
    conv => whnf
    refine ⟨?_, fun hc => ?_, fun hc => ?_⟩
    · exact g0
    · replace hc := (cond1 (n := n) (s := s) hc).2 rfl
      conv => whnf
      refine ⟨_, fun _ => call29 s 10 (by omega), ?_⟩
      generalize brkC 10 s = B at hbr hlen ⊢
      obtain ⟨one, rest, ended⟩ := B
      dsimp only at hbr hlen
      cases ended with
      | false =>
        conv => whnf
        refine ⟨?_, fun _ => ?_, fun h => absurd h.symm Bool.false_ne_true⟩
        · exact g0
        rw [if_neg (by decide)] at hbr
        have hp : parseF s0 = (FT0, (n : Int), 7) := by
          rw [← heq, hbr]
          show (if n = 1 ∨ s ≠ [] then _ else _) = _
          rw [if_pos hc]
        rw [hp]
        conv => whnf
        refine ⟨?_, [], ?_⟩
        · exact g0
        conv => whnf
        refine ⟨rfl, ?_, trivial, trivial⟩
        all_goals repeat' (first | exact True.intro | refine leF_cons rfl ?_ ?_ | refine leS_cons rfl ?_ ?_ | (show PLe _ _ _ _; conv => whnf) | (show SLe _ _ _ _; conv => whnf) | (show PLeL _ _ _ _; conv => whnf) | apply And.intro | rfl | exact Nat.le_refl _ | exact fun _ _ => rfl | exact rowEq0 _ _)
      | true =>
        conv => whnf
        refine ⟨?_, fun h => absurd h Bool.false_ne_true, fun _ => ?_⟩
        · exact g0
        rw [if_pos rfl] at hbr
        have hl1 := hlen.2.2 rfl
        have hnr : (splitC 10 rest).length + 1 = (splitC 10 s).length := by rw [hbr]; rfl
        conv => whnf
        refine ⟨trivial, fun hc1 => ?_, fun hc1 => ?_⟩
        · have hn1 : n = 1 := by
            have := beq_iff_eq.1 hc1
            dsimp only at this
            omega
          subst hn1
          have hcons := pLines_cons (n := 1) (x := one) (t := t) (splitC_ne 10 rest)
          rw [← hbr, heq, if_pos rfl] at hcons
          conv => whnf
          refine ⟨_, fun _ => call30 one wInflow (by omega), ?_⟩
          generalize hN : numbersF one wInflow = N at hcons ⊢
          cases N with
          | none =>
            conv => whnf
            refine ⟨?_, fun _ => ?_, fun h => absurd h.symm Bool.false_ne_true⟩
            · exact g0
            rw [hcons]
            conv => whnf
            refine ⟨?_, [], ?_⟩
            · exact g0
            conv => whnf
            refine ⟨rfl, ?_, trivial, trivial⟩
            all_goals repeat' (first | exact True.intro | refine leF_cons rfl ?_ ?_ | refine leS_cons rfl ?_ ?_ | (show PLe _ _ _ _; conv => whnf) | (show SLe _ _ _ _; conv => whnf) | (show PLeL _ _ _ _; conv => whnf) | apply And.intro | rfl | exact Nat.le_refl _ | exact fun _ _ => rfl | exact rowEq0 _ _)
          | some l =>
            conv => whnf
            refine ⟨?_, fun h => absurd h Bool.false_ne_true, fun _ => ?_⟩
            · exact g0
            dsimp only at hcons
            have hl := numbersF_len hN
            conv => whnf
            refine ⟨?_, (2, rest, ⟨t.lv, l, t.rel⟩), ⟨by dsimp only; omega, hcons.symm, ?_, ?_, ?_, ?_, ?_, hx.row⟩, ?_, rfl, rfl, ?_, ?_⟩
            · exact g0
            · dsimp only; omega
            · dsimp only; omega
            · have := hx.lv; dsimp only; omega
            · have := hx.rl; dsimp only; omega
            · dsimp only; omega
            · dsimp only; omega
            all_goals repeat' (first | exact True.intro | refine leF_cons rfl ?_ ?_ | refine leS_cons rfl ?_ ?_ | (show PLe _ _ _ _; conv => whnf) | (show SLe _ _ _ _; conv => whnf) | (show PLeL _ _ _ _; conv => whnf) | apply And.intro | rfl | exact Nat.le_refl _ | exact fun _ _ => rfl | exact rowEq0 _ _)
            all_goals first | omega | skip
        · have hn1 : n ≠ 1 := fun e => by
            subst e
            have h3 : (((1 : Nat) : Int) == 1) = false := hc1
            exact absurd h3 (by decide)
          have hcons := pLines_cons (n := n) (x := one) (t := t) (splitC_ne 10 rest)
          rw [← hbr, heq, if_neg hn1] at hcons
          conv => whnf
          refine ⟨_, fun _ => call30 one wLevel (by omega), ?_⟩
          generalize hN : numbersF one wLevel = N at hcons ⊢
          cases N with
          | none =>
            conv => whnf
            refine ⟨?_, fun _ => ?_, fun h => absurd h.symm Bool.false_ne_true⟩
            · exact g0
            rw [hcons]
            conv => whnf
            refine ⟨?_, [], ?_⟩
            · exact g0
            conv => whnf
            refine ⟨rfl, ?_, trivial, trivial⟩
            all_goals repeat' (first | exact True.intro | refine leF_cons rfl ?_ ?_ | refine leS_cons rfl ?_ ?_ | (show PLe _ _ _ _; conv => whnf) | (show SLe _ _ _ _; conv => whnf) | (show PLeL _ _ _ _; conv => whnf) | apply And.intro | rfl | exact Nat.le_refl _ | exact fun _ _ => rfl | exact rowEq0 _ _)
          | some l0 =>
            cases l0 with
            | nil =>
              conv => whnf
              refine ⟨?_, fun _ => ?_, fun h => absurd h.symm Bool.false_ne_true⟩
              · exact g0
              rw [hcons]
              conv => whnf
              refine ⟨?_, [], ?_⟩
              · exact g0
              conv => whnf
              refine ⟨rfl, ?_, trivial, trivial⟩
              all_goals repeat' (first | exact True.intro | refine leF_cons rfl ?_ ?_ | refine leS_cons rfl ?_ ?_ | (show PLe _ _ _ _; conv => whnf) | (show SLe _ _ _ _; conv => whnf) | (show PLeL _ _ _ _; conv => whnf) | apply And.intro | rfl | exact Nat.le_refl _ | exact fun _ _ => rfl | exact rowEq0 _ _)
            | cons a l =>
              have hl := numbersF_len hN
              rw [List.length_cons] at hl
              dsimp only at hcons
              conv => whnf
              refine ⟨?_, fun h => ?_, fun _ => ?_⟩
              · exact g0
              · have h2 : decide (((a :: l).length : Int) < 1) = true := h
                have h4 := of_decide_eq_true h2
                rw [List.length_cons] at h4
                omega
              conv => whnf
              refine ⟨_, fun _ => PureCall.arg_le (call_clone 1 l (by omega)) rfl (by
                all_goals repeat' (first | exact True.intro | refine leF_cons rfl ?_ ?_ | refine leS_cons rfl ?_ ?_ | (show PLe _ _ _ _; conv => whnf) | (show SLe _ _ _ _; conv => whnf) | (show PLeL _ _ _ _; conv => whnf) | apply And.intro | rfl | exact Nat.le_refl _ | exact fun _ _ => rfl | exact rowEq0 _ _)
                · intro k hk
                  show fl eInt (a :: l) (1 + k) = fl eInt l k
                  unfold fl
                  rw [Nat.add_comm 1 k]; rfl), ?_⟩
              conv => whnf
              refine ⟨rfl, ?_⟩
              conv => whnf
              have q1 := fl_push eInt t.lv a
              have q2 := fl_push (eIs 0) t.rel l
              refine ⟨?_, (n + 1, rest, ⟨t.lv ++ [a], t.inf, t.rel ++ [l]⟩), ⟨by dsimp only; omega, hcons.symm, ?_, ?_, ?_, ?_, hx.inf, ?_⟩, ?_, rfl, rfl, ?_, ?_⟩
              · have hlv := hx.lv
                have hrl := hx.rl
                (try conv => whnf)
                (repeat' (first | exact True.intro | exact fun _ h => h | refine inR64_of ?_ ?_ | apply And.intro | refine maxLen_ge ?_))
                all_goals (try dsimp only [List.length_cons, List.length_nil, Option.getD])
                all_goals first | omega | (show _ ≤ _; simp only [List.length_cons, List.length_nil]; omega) | skip
              · dsimp only; omega
              · dsimp only; omega
              · have := hx.lv; dsimp only; rw [List.length_append]; exact Nat.add_le_add_right this 1
              · have := hx.rl; dsimp only; rw [List.length_append]; exact Nat.add_le_add_right this 1
              · intro i hi
                dsimp only at hi ⊢
                rw [List.length_append, List.length_cons, List.length_nil] at hi
                by_cases hi2 : i < t.rel.length
                · have := hx.row i hi2
                  rw [List.getD_eq_getElem?_getD] at this ⊢
                  rw [List.getElem?_append_left hi2]; exact this
                · have hi3 : i = t.rel.length := by omega
                  subst hi3
                  rw [List.getD_eq_getElem?_getD, List.getElem?_append_right (Nat.le_refl _), Nat.sub_self]
                  show l.length ≤ _
                  omega
              · dsimp only; omega
              all_goals repeat' (first | exact True.intro | refine leF_cons rfl ?_ ?_ | refine leS_cons rfl ?_ ?_ | (show PLe _ _ _ _; conv => whnf) | (show SLe _ _ _ _; conv => whnf) | (show PLeL _ _ _ _; conv => whnf) | apply And.intro | rfl | exact Nat.le_refl _ | exact fun _ _ => rfl | exact rowEq0 _ _)
              all_goals first | omega | exact q1 | exact q2 | (show _ + 1 = _; simp only [List.length_append, List.length_cons, List.length_nil]; done) | skip
    · have hc2 : ¬ (n = 1 ∨ s ≠ []) := fun h => absurd ((cond1 (n := n) (s := s) hc).1 h) (by decide)
      have hs0 : s = [] := Classical.byContradiction fun h => hc2 (.inr h)
      subst hs0
      have hp : parseF s0 = (t, 0, checkF t) := by
        rw [← heq]
        show (if n = 1 ∨ ([] : List UInt8) ≠ [] then _ else _) = _
        rw [if_neg hc2]
      rw [hp]
      conv => whnf
      refine ⟨_, fun _ => PureCall.arg_le (call22 2 0 t (by have := hx.lv; omega) (by have := hx.inf; omega) (by have := hx.rl; omega) (fun i hi => by have := hx.row i hi; omega)) rfl (by
        all_goals repeat' (first | exact True.intro | refine leF_cons rfl ?_ ?_ | refine leS_cons rfl ?_ ?_ | (show PLe _ _ _ _; conv => whnf) | (show SLe _ _ _ _; conv => whnf) | (show PLeL _ _ _ _; conv => whnf) | apply And.intro | rfl | exact Nat.le_refl _ | exact fun _ _ => rfl | exact rowEq0 _ _)
        all_goals first | omega | exact (by decide) | skip), ?_⟩
      conv => whnf
      refine ⟨rfl, ?_⟩
      conv => whnf
      refine ⟨?_, [], ?_⟩
      · exact g0
      conv => whnf
      refine ⟨rfl, ?_, trivial, trivial⟩
      all_goals repeat' (first | exact True.intro | refine leF_cons rfl ?_ ?_ | refine leS_cons rfl ?_ ?_ | (show PLe _ _ _ _; conv => whnf) | (show SLe _ _ _ _; conv => whnf) | (show PLeL _ _ _ _; conv => whnf) | apply And.intro | rfl | exact Nat.le_refl _ | exact fun _ _ => rfl | exact rowEq0 _ _)
end Pv
end Go.Proofs.YtcfcmafmdpbjoaaDoor
/- LAW 24, THE WALKS: tables that are the same. -/
set_option linter.unusedSimpArgs false
set_option linter.unusedVariables false
namespace Go.Proofs.YtcfcmafmdpbjoaaDoor
namespace Pv
def c37L1 : C := (.seq (.reg [⟨(some 14), 224, none, .bi false .lss (.t 13) (.t 12)⟩])
  (.seq (.cond (.t 14) .skip (.exit 0))
  (.seq (.block 1 (.seq (.reg [⟨(some 15), 240, none, .mv (.t 13)⟩,
    ⟨(some 5), 80, none, .mv (.t 15)⟩])
  (.seq (.drw [⟨(some 16), 256, none, .mv (.t 0)⟩,
    ⟨(some 17), 272, none, .mv (.t 5)⟩,
    ⟨(some 18), 288, none, .ia 1 (.t 16) (.t 17)⟩,
    ⟨(some 19), 304, none, .ld 1 false (.t 18)⟩,
    ⟨(some 20), 320, none, .mv (.t 1)⟩,
    ⟨(some 21), 336, none, .mv (.t 5)⟩,
    ⟨(some 22), 352, none, .ia 1 (.t 20) (.t 21)⟩,
    ⟨(some 23), 368, none, .ld 1 false (.t 22)⟩,
    ⟨(some 24), 384, none, .bi false .neq (.t 19) (.t 23)⟩]
    [(0, 1, 16), (0, 4, 16), (0, 5, 16), (0, 6, 16), (0, 7, 16), (1, 4, 17), (1, 5, 17), (1, 6, 17), (1, 7, 17), (2, 4, 18), (2, 5, 18), (2, 6, 18), (2, 7, 18), (3, 4, 19), (3, 5, 19), (3, 6, 19), (3, 7, 19), (4, 5, 20)])
  (.cond (.t 24) (.seq (.reg [⟨(some 4), 64, none, .mv (.c (.bool false))⟩])
  .ret) .skip))))
  (.reg [⟨(some 25), 400, none, .bi false .add (.t 13) (.c (.int .i64 1))⟩,
    ⟨(some 13), 208, none, .mv (.t 25)⟩]))))
def c37 : C := (.seq (.reg [⟨(some 4), 64, none, .mv (.c (.bool false))⟩])
  (.seq (.seq (.reg [⟨(some 6), 96, none, .mv (.t 0)⟩,
    ⟨(some 7), 112, none, .len (.t 6)⟩,
    ⟨(some 8), 128, none, .mv (.t 1)⟩,
    ⟨(some 9), 144, none, .len (.t 8)⟩,
    ⟨(some 10), 160, none, .bi false .neq (.t 7) (.t 9)⟩])
  (.cond (.t 10) (.seq (.reg [⟨(some 4), 64, none, .mv (.c (.bool false))⟩])
  .ret) .skip))
  (.seq (.seq (.reg [⟨(some 11), 176, none, .mv (.t 0)⟩,
    ⟨(some 12), 192, none, .len (.t 11)⟩,
    ⟨(some 13), 208, none, .mv (.c (.int .i64 0))⟩])
  (.block 0 (.loop c37L1)))
  (.seq (.reg [⟨(some 4), 64, none, .mv (.c (.bool true))⟩])
  .ret))))
theorem fits37 : fits Tryd.prog false Tryd.f37 2 26 [(4, none)] = some c37.er := by kernel_rfl
def c38L1 : C := (.seq (.reg [⟨(some 18), 288, none, .bi false .lss (.t 17) (.t 16)⟩])
  (.seq (.cond (.t 18) .skip (.exit 0))
  (.seq (.block 1 (.seq (.reg [⟨(some 19), 304, none, .mv (.t 17)⟩,
    ⟨(some 20), 320, none, .ia 1 (.t 15) (.t 17)⟩,
    ⟨(some 21), 336, none, .ld 1 false (.t 20)⟩,
    ⟨(some 7), 112, none, .mv (.t 19)⟩,
    ⟨(some 8), 128, none, .mv (.t 21)⟩])
  (.seq (.reg [⟨(some 22), 352, none, .mv (.t 1)⟩,
    ⟨(some 23), 368, none, .mv (.t 7)⟩,
    ⟨(some 24), 384, none, .ia 1 (.t 22) (.t 23)⟩,
    ⟨(some 25), 400, none, .ld 1 false (.t 24)⟩,
    ⟨(some 9), 144, none, .mv (.t 25)⟩])
  (.seq (.reg [⟨(some 26), 416, none, .mv (.t 2)⟩,
    ⟨(some 27), 432, none, .mv (.t 8)⟩,
    ⟨(some 28), 448, none, .mv (.t 9)⟩,
    ⟨(some 29), 464, none, .call (.t 26) [(.t 27), (.t 28)]⟩,
    ⟨(some 30), 480, none, .un false .not (.t 29)⟩])
  (.cond (.t 30) (.seq (.reg [⟨(some 6), 96, none, .mv (.c (.bool false))⟩])
  .ret) .skip)))))
  (.reg [⟨(some 31), 496, none, .bi false .add (.t 17) (.c (.int .i64 1))⟩,
    ⟨(some 17), 272, none, .mv (.t 31)⟩]))))
def c38 : C := (.seq (.reg [⟨(some 6), 96, none, .mv (.c (.bool false))⟩])
  (.seq (.seq (.reg [⟨(some 10), 160, none, .mv (.t 0)⟩,
    ⟨(some 11), 176, none, .len (.t 10)⟩,
    ⟨(some 12), 192, none, .mv (.t 1)⟩,
    ⟨(some 13), 208, none, .len (.t 12)⟩,
    ⟨(some 14), 224, none, .bi false .neq (.t 11) (.t 13)⟩])
  (.cond (.t 14) (.seq (.reg [⟨(some 6), 96, none, .mv (.c (.bool false))⟩])
  .ret) .skip))
  (.seq (.seq (.reg [⟨(some 15), 240, none, .mv (.t 0)⟩,
    ⟨(some 16), 256, none, .len (.t 15)⟩,
    ⟨(some 17), 272, none, .mv (.c (.int .i64 0))⟩])
  (.block 0 (.loop c38L1)))
  (.seq (.reg [⟨(some 6), 96, none, .mv (.c (.bool true))⟩])
  .ret))))
theorem fits38 : fits Tryd.prog false Tryd.f38 3 32 [(6, none)] = some c38.er := by kernel_rfl
def c18 : C := (.seq (.reg [⟨(some 2), 32, none, .bx 3 (.t 0)⟩,
    ⟨(some 3), 48, none, .bx 3 (.t 1)⟩,
    ⟨(some 4), 64, none, .mv (.c (.bool false))⟩])
  (.seq (.reg [⟨(some 5), 80, none, .fa 0 (.t 2)⟩,
    ⟨(some 6), 96, none, .ld 1 false (.t 5)⟩,
    ⟨(some 7), 112, none, .fa 0 (.t 3)⟩,
    ⟨(some 8), 128, none, .ld 1 false (.t 7)⟩,
    ⟨(some 9), 144, none, .call (.c (.fn (.func 37) [] [])) [(.t 6), (.t 8)]⟩,
    ⟨(some 10), 160, none, .mv (.t 9)⟩,
    ⟨(some 11), 176, (some (10, true)), .fa 1 (.t 2)⟩,
    ⟨(some 12), 192, (some (10, true)), .ld 1 false (.t 11)⟩,
    ⟨(some 13), 208, (some (10, true)), .fa 1 (.t 3)⟩,
    ⟨(some 14), 224, (some (10, true)), .ld 1 false (.t 13)⟩,
    ⟨(some 15), 240, (some (10, true)), .call (.c (.fn (.func 37) [] [])) [(.t 12), (.t 14)]⟩,
    ⟨(some 16), 256, none, .pick (.t 10) (.t 15) (.c (.bool false))⟩,
    ⟨(some 17), 272, none, .mv (.t 16)⟩,
    ⟨(some 18), 288, (some (17, true)), .fa 2 (.t 2)⟩,
    ⟨(some 19), 304, (some (17, true)), .ld 1 false (.t 18)⟩,
    ⟨(some 20), 320, (some (17, true)), .fa 2 (.t 3)⟩,
    ⟨(some 21), 336, (some (17, true)), .ld 1 false (.t 20)⟩,
    ⟨(some 22), 352, (some (17, true)), .call (.c (.fn (.func 38) [] [])) [(.t 19), (.t 21), (.c (.fn (.func 37) [] []))]⟩,
    ⟨(some 23), 368, none, .pick (.t 17) (.t 22) (.c (.bool false))⟩,
    ⟨(some 4), 64, none, .mv (.t 23)⟩])
  .ret))
theorem fits18 : fits Tryd.prog false Tryd.f18 2 24 [(4, none)] = some c18.er := by kernel_rfl
theorem beq_false_of {α : Type} [BEq α] [LawfulBEq α] {l m : List α} (h : l ≠ m) : (l == m) = false := beq_eq_false_iff_ne.2 h
theorem getD_ext {α : Type} [Inhabited α] {l m : List α} (h : l.length = m.length) (h2 : ∀ i, i < l.length → l.getD i default = m.getD i default) : l = m := by
  refine List.ext_getElem? fun i => ?_
  by_cases hi : i < l.length
  · rw [getD_some hi, getD_some (l := m) (by omega), h2 i hi]
  · rw [List.getElem?_eq_none (by omega), List.getElem?_eq_none (by omega)]
set_option maxRecDepth 100000 in
set_option maxHeartbeats 4000000 in
theorem call37 (τ τ' : Nat) (l m : List Int) (hl : l.length ≤ 4611686018427387904) : PureCall Tryd.prog 37 [.sl τ 1 l.length (fl eInt l), .sl τ' 1 m.length (fl eInt m)] [] ⟨.bool (l == m), [], []⟩ := by
  refine pure_call mix Tryd.func37 fits37 rfl ?_
  conv => whnf
  refine ⟨?_, fun hc => ?_, fun hc => ?_⟩
  · exact g0
  · simp only [bp] at hc
    rw [beq_false_of (l := l) (m := m) (fun e => by rw [e] at hc; omega)]
    conv => whnf
    refine ⟨?_, [], ?_⟩
    · exact g0
    conv => whnf
    refine ⟨rfl, ?_, trivial, trivial⟩
    all_goals repeat' (first | exact True.intro | refine leF_cons rfl ?_ ?_ | refine leS_cons rfl ?_ ?_ | (show PLe _ _ _ _; conv => whnf) | (show SLe _ _ _ _; conv => whnf) | (show PLeL _ _ _ _; conv => whnf) | apply And.intro | rfl | exact Nat.le_refl _ | exact fun _ _ => rfl | exact rowEq0 _ _)
  simp only [bp] at hc
  have hlm : l.length = m.length := by omega
  conv => whnf
  refine ⟨trivial, ?_⟩
  refine LSem.loop (n := 26) mix (α := Nat) (fun i => i ≤ l.length ∧ ∀ j, j < i → l.getD j default = m.getD j default)
    (fun i => [(0, .sl τ 1 l.length (fl eInt l)), (1, .sl τ' 1 m.length (fl eInt m)), (12, .int .i64 l.length), (13, .int .i64 i)])
    (fun i => []) (fun i => l.length - i) 0 ?_ ?_ ?_
  · exact ⟨Nat.zero_le _, fun j hj => by omega⟩
  · refine ⟨rfl, rfl, ?_, ?_⟩
    all_goals repeat' (first | exact True.intro | refine leF_cons rfl ?_ ?_ | refine leS_cons rfl ?_ ?_ | (show PLe _ _ _ _; conv => whnf) | (show SLe _ _ _ _; conv => whnf) | (show PLeL _ _ _ _; conv => whnf) | apply And.intro | rfl | exact Nat.le_refl _ | exact fun _ _ => rfl | exact rowEq0 _ _)
  · intro i hi
    obtain ⟨hi, hall⟩ := hi
    have hj : ((i : Int)).toNat = i := by omega
    conv => whnf
    refine ⟨trivial, fun hc2 => ?_, fun hc2 => ?_⟩
    · replace hc2 := of_decide_eq_true hc2
      have hlt : i < l.length := by
        have h : (i : Int) < l.length := hc2
        omega
      conv => whnf
      refine ⟨rfl, ?_⟩
      conv => whnf
      refine ⟨?_, fun h1 => ?_, fun h1 => ?_⟩
      · exact g0
      · simp only [bp] at h1
        rw [hj] at h1
        rw [beq_false_of (l := l) (m := m) (fun e => h1 (by rw [e]))]
        conv => whnf
        refine ⟨?_, [], ?_⟩
        · exact g0
        conv => whnf
        refine ⟨rfl, ?_, trivial, trivial⟩
        all_goals repeat' (first | exact True.intro | refine leF_cons rfl ?_ ?_ | refine leS_cons rfl ?_ ?_ | (show PLe _ _ _ _; conv => whnf) | (show SLe _ _ _ _; conv => whnf) | (show PLeL _ _ _ _; conv => whnf) | apply And.intro | rfl | exact Nat.le_refl _ | exact fun _ _ => rfl | exact rowEq0 _ _)
      · simp only [bp] at h1
        rw [hj] at h1
        conv => whnf
        refine ⟨?_, i + 1, ⟨hlt, fun j hj2 => ?_⟩, ?_, rfl, rfl, ?_, ?_⟩
        · exact g0
        · rcases Nat.lt_or_ge j i with h | h
          · exact hall j h
          · rw [show j = i by omega]; exact h1
        · omega
        all_goals repeat' (first | exact True.intro | refine leF_cons rfl ?_ ?_ | refine leS_cons rfl ?_ ?_ | (show PLe _ _ _ _; conv => whnf) | (show SLe _ _ _ _; conv => whnf) | (show PLeL _ _ _ _; conv => whnf) | apply And.intro | rfl | exact Nat.le_refl _ | exact fun _ _ => rfl | exact rowEq0 _ _)
        all_goals first | omega | skip
    · replace hc2 := of_decide_eq_false hc2
      have hk : i = l.length := by
        have h : ¬ (i : Int) < l.length := hc2
        omega
      subst hk
      have he : l = m := getD_ext hlm hall
      rw [show (l == m) = true by rw [he]; exact beq_self_eq_true m]
      conv => whnf
      refine ⟨?_, [], ?_⟩
      · exact g0
      conv => whnf
      refine ⟨rfl, ?_, trivial, trivial⟩
      all_goals repeat' (first | exact True.intro | refine leF_cons rfl ?_ ?_ | refine leS_cons rfl ?_ ?_ | (show PLe _ _ _ _; conv => whnf) | (show SLe _ _ _ _; conv => whnf) | (show PLeL _ _ _ _; conv => whnf) | apply And.intro | rfl | exact Nat.le_refl _ | exact fun _ _ => rfl | exact rowEq0 _ _)
set_option maxRecDepth 100000 in
set_option maxHeartbeats 4000000 in
theorem call38 (τ τ' σ σ' : Nat) (l m : List (List Int)) (hl : l.length ≤ 4611686018427387904) (hl2 : ∀ i, i < l.length → (l.getD i default).length ≤ 4611686018427387904) :
    PureCall Tryd.prog 38 [.sl τ 1 l.length (fl (eIs σ) l), .sl τ' 1 m.length (fl (eIs σ') m), .fn (.func 37) [] []] [] ⟨.bool (l == m), [], []⟩ := by
  refine pure_call mix Tryd.func38 fits38 rfl ?_
  conv => whnf
  refine ⟨?_, fun hc => ?_, fun hc => ?_⟩
  · exact g0
  · simp only [bp] at hc
    rw [beq_false_of (l := l) (m := m) (fun e => by rw [e] at hc; omega)]
    conv => whnf
    refine ⟨?_, [], ?_⟩
    · exact g0
    conv => whnf
    refine ⟨rfl, ?_, trivial, trivial⟩
    all_goals repeat' (first | exact True.intro | refine leF_cons rfl ?_ ?_ | refine leS_cons rfl ?_ ?_ | (show PLe _ _ _ _; conv => whnf) | (show SLe _ _ _ _; conv => whnf) | (show PLeL _ _ _ _; conv => whnf) | apply And.intro | rfl | exact Nat.le_refl _ | exact fun _ _ => rfl | exact rowEq0 _ _)
  simp only [bp] at hc
  have hlm : l.length = m.length := by omega
  conv => whnf
  refine ⟨trivial, ?_⟩
  refine LSem.loop (n := 32) mix (α := Nat) (fun i => i ≤ l.length ∧ ∀ j, j < i → l.getD j default = m.getD j default)
    (fun i => [(1, .sl τ' 1 m.length (fl (eIs σ') m)), (2, .fn (.func 37) [] []), (15, .sl τ 1 l.length (fl (eIs σ) l)), (16, .int .i64 l.length), (17, .int .i64 i)])
    (fun i => []) (fun i => l.length - i) 0 ?_ ?_ ?_
  · exact ⟨Nat.zero_le _, fun j hj => by omega⟩
  · refine ⟨rfl, rfl, ?_, ?_⟩
    all_goals repeat' (first | exact True.intro | refine leF_cons rfl ?_ ?_ | refine leS_cons rfl ?_ ?_ | (show PLe _ _ _ _; conv => whnf) | (show SLe _ _ _ _; conv => whnf) | (show PLeL _ _ _ _; conv => whnf) | apply And.intro | rfl | exact Nat.le_refl _ | exact fun _ _ => rfl | exact rowEq0 _ _)
  · intro i hi
    obtain ⟨hi, hall⟩ := hi
    have hj : ((i : Int)).toNat = i := by omega
    conv => whnf
    refine ⟨trivial, fun hc2 => ?_, fun hc2 => ?_⟩
    · replace hc2 := of_decide_eq_true hc2
      have hlt : i < l.length := by
        have h : (i : Int) < l.length := hc2
        omega
      have hli := hl2 i hlt
      conv => whnf
      refine ⟨_, fun _ => call37 (lendT τ) (lendT τ') (l.getD ((i : Int)).toNat default) (m.getD ((i : Int)).toNat default) (by rw [hj]; exact hli), ?_⟩
      rw [hj]
      conv => whnf
      refine ⟨?_, fun h1 => ?_, fun h1 => ?_⟩
      · exact g0
      · simp only [bp] at h1
        rw [beq_false_of (l := l) (m := m) (fun e => by rw [e] at h1; exact absurd h1 (by simp))]
        conv => whnf
        refine ⟨?_, [], ?_⟩
        · exact g0
        conv => whnf
        refine ⟨rfl, ?_, trivial, trivial⟩
        all_goals repeat' (first | exact True.intro | refine leF_cons rfl ?_ ?_ | refine leS_cons rfl ?_ ?_ | (show PLe _ _ _ _; conv => whnf) | (show SLe _ _ _ _; conv => whnf) | (show PLeL _ _ _ _; conv => whnf) | apply And.intro | rfl | exact Nat.le_refl _ | exact fun _ _ => rfl | exact rowEq0 _ _)
      · have h2 : l.getD i default = m.getD i default := by simpa using h1
        conv => whnf
        refine ⟨?_, i + 1, ⟨hlt, fun j hj2 => ?_⟩, ?_, rfl, rfl, ?_, ?_⟩
        · exact g0
        · rcases Nat.lt_or_ge j i with h | h
          · exact hall j h
          · rw [show j = i by omega]; exact h2
        · omega
        all_goals repeat' (first | exact True.intro | refine leF_cons rfl ?_ ?_ | refine leS_cons rfl ?_ ?_ | (show PLe _ _ _ _; conv => whnf) | (show SLe _ _ _ _; conv => whnf) | (show PLeL _ _ _ _; conv => whnf) | apply And.intro | rfl | exact Nat.le_refl _ | exact fun _ _ => rfl | exact rowEq0 _ _)
        all_goals first | omega | skip
    · replace hc2 := of_decide_eq_false hc2
      have hk : i = l.length := by
        have h : ¬ (i : Int) < l.length := hc2
        omega
      subst hk
      have he : l = m := getD_ext hlm hall
      rw [show (l == m) = true by rw [he]; exact beq_self_eq_true m]
      conv => whnf
      refine ⟨?_, [], ?_⟩
      · exact g0
      conv => whnf
      refine ⟨rfl, ?_, trivial, trivial⟩
      all_goals repeat' (first | exact True.intro | refine leF_cons rfl ?_ ?_ | refine leS_cons rfl ?_ ?_ | (show PLe _ _ _ _; conv => whnf) | (show SLe _ _ _ _; conv => whnf) | (show PLeL _ _ _ _; conv => whnf) | apply And.intro | rfl | exact Nat.le_refl _ | exact fun _ _ => rfl | exact rowEq0 _ _)
def sameF (a b : FT) : Bool := a.lv == b.lv && (a.inf == b.inf && a.rel == b.rel)
set_option maxRecDepth 100000 in
set_option maxHeartbeats 4000000 in
theorem call18 (τ τ' σ σ' : Nat) (a b : FT) (h1 : a.lv.length ≤ 4611686018427387904) (h2 : a.inf.length ≤ 4611686018427387904) (h3 : a.rel.length ≤ 4611686018427387904) (h4 : ∀ i, i < a.rel.length → (a.rel.getD i default).length ≤ 4611686018427387904) :
    PureCall Tryd.prog 18 [.agg (eFT (τ + 1) σ a), .agg (eFT (τ' + 1) σ' b)] [] ⟨.bool (sameF a b), [], []⟩ := by
  refine pure_call mix Tryd.func18 fits18 rfl ?_
  conv => whnf
  refine ⟨_, fun _ => call37 (τ + 1) (τ' + 1) a.lv b.lv h1, ?_⟩
  conv => whnf
  refine ⟨_, fun _ => call37 (τ + 1) (τ' + 1) a.inf b.inf h2, ?_⟩
  conv => whnf
  refine ⟨_, fun _ => call38 (τ + 1) (τ' + 1) σ σ' a.rel b.rel h3 h4, ?_⟩
  conv => whnf
  refine ⟨?_, [], ?_⟩
  · exact g0
  conv => whnf
  refine ⟨rfl, ?_, trivial, trivial⟩
  all_goals repeat' (first | exact True.intro | refine leF_cons rfl ?_ ?_ | refine leS_cons rfl ?_ ?_ | (show PLe _ _ _ _; conv => whnf) | (show SLe _ _ _ _; conv => whnf) | (show PLeL _ _ _ _; conv => whnf) | apply And.intro | rfl | exact Nat.le_refl _ | exact fun _ _ => rfl | exact rowEq0 _ _)
  unfold sameF
  cases a.lv == b.lv <;> cases a.inf == b.inf <;> cases a.rel == b.rel <;> rfl
end Pv
end Go.Proofs.YtcfcmafmdpbjoaaDoor
/- ARGUMENTS THAT SAY THE SAME: rows within rows. -/
set_option linter.unusedSimpArgs false
set_option linter.unusedVariables false
namespace Go.Proofs.YtcfcmafmdpbjoaaDoor
namespace Pv
open Go.RowKit
theorem PureCall.arg_sem {P : Program} {f : FuncId} {args args' : List PV} {bs : List SE} {c : CallRes} (h : PureCall P f args' bs c) (hs : ∀ (X : Cx) (γ : Gh) (w : World) (vals : List Value), RepL X γ w args vals → RepL X γ w args' vals) : PureCall P f args bs c :=
  ⟨h.1, fun w γ as_ ls vals hst hX ha => h.2 w γ as_ ls vals hst hX (hs _ _ _ _ ha)⟩
theorem Rep.sl_congr {X : Cx} {γ : Gh} {w : World} {τ z n : Nat} {f f' : Nat → List PV} {v : Value} (h : Rep X γ w (.sl τ z n f) v) (hl : ∀ i, i < n → (f' i).length = z) (hfl : ∀ i, i < n → ∀ c ∈ f' i, c.flat = true)
    (hc : ∀ (i j : Nat) (c' : PV), i < n → (f' i)[j]? = some c' → ∃ c, (f i)[j]? = some c ∧ ∀ u, Rep X γ w (c.mark τ) u → Rep X γ w (c'.mark τ) u) : Rep X γ w (.sl τ z n f') v := by
  cases h with
  | sl _ _ _ _ ad cap vs hcap hz hf hb h =>
    refine .sl τ z n f' ad cap vs hcap hl hfl hb fun i j c' hi hj => ?_
    obtain ⟨c, h1, h2⟩ := hc i j c' hi hj
    exact h2 _ (h i j c hi h1)
theorem Rep.sl_row {X : Cx} {γ : Gh} {w : World} {τ z n : Nat} {f f' : Nat → List PV} {v : Value} (h : Rep X γ w (.sl τ z n f) v) (he : RowEq n f f') : Rep X γ w (.sl τ z n f') v := by
  cases h with
  | sl _ _ _ _ ad cap vs hcap hz hf hb h =>
    exact .sl τ z n f' ad cap vs hcap (fun i hi => by rw [← he i hi]; exact hz i hi) (fun i hi => by rw [← he i hi]; exact hf i hi) hb fun i j c hi hj => h i j c hi (by rw [he i hi]; exact hj)
theorem Rep.sl_nest {X : Cx} {γ : Gh} {w : World} {τ n : Nat} {f f' : Nat → List PV} {v : Value} (h : Rep X γ w (.sl τ 1 n f) v)
    (hn : ∀ i, i < n → ∃ σ z m g g', f i = [.sl σ z m g] ∧ f' i = [.sl σ z m g'] ∧ RowEq m g g') : Rep X γ w (.sl τ 1 n f') v := by
  refine h.sl_congr (fun i hi => ?_) (fun i hi c hc => ?_) fun i j c' hi hj => ?_
  · obtain ⟨σ, z, m, g, g', _, e, _⟩ := hn i hi; rw [e]; rfl
  · obtain ⟨σ, z, m, g, g', _, e, _⟩ := hn i hi
    rw [e, List.mem_singleton] at hc; subst hc; rfl
  · obtain ⟨σ, z, m, g, g', e1, e2, e3⟩ := hn i hi
    rw [e2] at hj
    cases j with
    | zero =>
      simp only [List.getElem?_cons_zero, Option.some.injEq] at hj
      subst hj
      refine ⟨.sl σ z m g, by rw [e1]; rfl, fun u hu => ?_⟩
      exact Rep.sl_row hu e3
    | succ j => simp at hj
theorem rowEq2 {f f' : Nat → List PV} (h0 : f 0 = f' 0) (h1 : f 1 = f' 1) : RowEq 2 f f' := fun i hi => by
  match i, hi with
  | 0, _ => exact h0
  | 1, _ => exact h1
end Pv
end Go.Proofs.YtcfcmafmdpbjoaaDoor
/- LAW 24, THE WALKS: the examples of the chapter. -/
set_option linter.unusedSimpArgs false
set_option linter.unusedVariables false
namespace Go.Proofs.YtcfcmafmdpbjoaaDoor
namespace Pv
def c8 : C := (.seq (.reg [⟨(some 0), 0, none, .mv (.c (.bool false))⟩])
  (.seq (.reg [⟨(some 12), 192, none, .bs 3 1 [(.c (.int .i64 100)), (.c (.int .i64 200))]⟩,
    ⟨(some 13), 208, none, .bs 3 1 [(.c (.int .i64 0)), (.c (.int .i64 50))]⟩,
    ⟨(some 14), 224, none, .bs 3 1 [(.c (.int .i64 0)), (.c (.int .i64 10))]⟩,
    ⟨(some 15), 240, none, .bs 3 1 [(.c (.int .i64 5)), (.c (.int .i64 40))]⟩,
    ⟨(some 16), 256, none, .bs 22 1 [(.t 14), (.t 15)]⟩,
    ⟨(some 17), 272, none, .bd [(.nil 1), (.nil 1), (.nil 1)] [(0, 1, (.t 12)), (1, 1, (.t 13)), (2, 1, (.t 16))]⟩,
    ⟨(some 1), 16, none, .al [(.nil 1), (.nil 1), (.nil 1)]⟩,
    ⟨none, 0, none, .st 3 (.t 1) (.t 17)⟩])
  (.seq (.reg [⟨(some 19), 304, none, .ld 3 true (.t 1)⟩,
    ⟨(some 20), 320, none, .call (.c (.fn (.func 19) [] [])) [(.t 19), (.c (.int .i64 150)), (.c (.int .i64 60))]⟩,
    ⟨(some 18), 288, none, .mv (.t 20)⟩,
    ⟨(some 21), 336, none, .ex (.t 18) 0⟩,
    ⟨(some 22), 352, none, .ex (.t 18) 1⟩,
    ⟨(some 2), 32, none, .mv (.t 21)⟩,
    ⟨(some 3), 48, none, .mv (.t 22)⟩])
  (.seq (.reg [⟨(some 24), 384, none, .ld 3 true (.t 1)⟩,
    ⟨(some 25), 400, none, .call (.c (.fn (.func 17) [] [])) [(.t 24)]⟩,
    ⟨(some 23), 368, none, .mv (.t 25)⟩,
    ⟨(some 26), 416, none, .ex (.t 23) 0⟩,
    ⟨(some 27), 432, none, .ex (.t 23) 1⟩,
    ⟨(some 4), 64, none, .mv (.t 26)⟩,
    ⟨(some 5), 80, none, .mv (.t 27)⟩])
  (.seq (.reg [⟨(some 29), 464, none, .mv (.t 4)⟩,
    ⟨(some 30), 480, none, .call (.c (.fn (.func 14) [] [])) [(.t 29)]⟩,
    ⟨(some 28), 448, none, .mv (.t 30)⟩,
    ⟨(some 31), 496, none, .ex (.t 28) 0⟩,
    ⟨(some 32), 512, none, .ex (.t 28) 1⟩,
    ⟨(some 33), 528, none, .ex (.t 28) 2⟩,
    ⟨(some 6), 96, none, .al [(.nil 1), (.nil 1), (.nil 1)]⟩,
    ⟨none, 0, none, .st 3 (.t 6) (.t 31)⟩,
    ⟨(some 7), 112, none, .mv (.t 32)⟩,
    ⟨(some 8), 128, none, .mv (.t 33)⟩])
  (.seq (.reg [⟨(some 35), 560, none, .call (.c (.fn (.func 14) [] [])) [(.c (.str [105, 110, 102, 108, 111, 119, 32, 48, 32, 53, 10, 108, 101, 118, 101, 108, 32, 120, 10]))]⟩,
    ⟨(some 34), 544, none, .mv (.t 35)⟩,
    ⟨(some 36), 576, none, .ex (.t 34) 0⟩,
    ⟨(some 37), 592, none, .ex (.t 34) 1⟩,
    ⟨(some 38), 608, none, .ex (.t 34) 2⟩,
    ⟨(some 9), 144, none, .al [(.nil 1), (.nil 1), (.nil 1)]⟩,
    ⟨none, 0, none, .st 3 (.t 9) (.t 36)⟩,
    ⟨(some 10), 160, none, .mv (.t 37)⟩,
    ⟨(some 11), 176, none, .mv (.t 38)⟩])
  (.seq (.reg [⟨(some 39), 624, none, .mv (.t 3)⟩,
    ⟨(some 40), 640, none, .bi false .eql (.t 39) (.c (.int .i64 0))⟩,
    ⟨(some 41), 656, none, .mv (.t 40)⟩,
    ⟨(some 42), 672, (some (41, true)), .mv (.t 2)⟩,
    ⟨(some 43), 688, (some (41, true)), .bi false .eql (.t 42) (.c (.int .i64 10))⟩,
    ⟨(some 44), 704, none, .pick (.t 41) (.t 43) (.c (.bool false))⟩,
    ⟨(some 45), 720, none, .mv (.t 44)⟩,
    ⟨(some 46), 736, (some (45, true)), .mv (.t 5)⟩,
    ⟨(some 47), 752, (some (45, true)), .bi false .eql (.t 46) (.c (.int .i64 0))⟩,
    ⟨(some 48), 768, none, .pick (.t 45) (.t 47) (.c (.bool false))⟩,
    ⟨(some 49), 784, none, .mv (.t 48)⟩,
    ⟨(some 50), 800, (some (49, true)), .mv (.t 4)⟩,
    ⟨(some 51), 816, (some (49, true)), .bi false .eql (.t 50) (.c (.str [105, 110, 102, 108, 111, 119, 32, 48, 32, 53, 48, 10, 108, 101, 118, 101, 108, 32, 49, 48, 48, 32, 48, 32, 49, 48, 10, 108, 101, 118, 101, 108, 32, 50, 48, 48, 32, 53, 32, 52, 48, 10]))⟩,
    ⟨(some 52), 832, none, .pick (.t 49) (.t 51) (.c (.bool false))⟩,
    ⟨(some 53), 848, none, .mv (.t 52)⟩,
    ⟨(some 54), 864, (some (53, true)), .mv (.t 8)⟩,
    ⟨(some 55), 880, (some (53, true)), .bi false .eql (.t 54) (.c (.int .i64 0))⟩,
    ⟨(some 56), 896, none, .pick (.t 53) (.t 55) (.c (.bool false))⟩,
    ⟨(some 57), 912, none, .mv (.t 56)⟩,
    ⟨(some 58), 928, (some (57, true)), .mv (.t 7)⟩,
    ⟨(some 59), 944, (some (57, true)), .bi false .eql (.t 58) (.c (.int .i64 0))⟩,
    ⟨(some 60), 960, none, .pick (.t 57) (.t 59) (.c (.bool false))⟩,
    ⟨(some 61), 976, none, .mv (.t 60)⟩,
    ⟨(some 62), 992, (some (61, true)), .ld 3 true (.t 1)⟩,
    ⟨(some 63), 1008, (some (61, true)), .ld 3 true (.t 6)⟩,
    ⟨(some 64), 1024, (some (61, true)), .call (.c (.fn (.func 18) [] [])) [(.t 62), (.t 63)]⟩,
    ⟨(some 65), 1040, none, .pick (.t 61) (.t 64) (.c (.bool false))⟩,
    ⟨(some 66), 1056, none, .mv (.t 65)⟩,
    ⟨(some 67), 1072, (some (66, true)), .mv (.t 11)⟩,
    ⟨(some 68), 1088, (some (66, true)), .bi false .eql (.t 67) (.c (.int .i64 7))⟩,
    ⟨(some 69), 1104, none, .pick (.t 66) (.t 68) (.c (.bool false))⟩,
    ⟨(some 70), 1120, none, .mv (.t 69)⟩,
    ⟨(some 71), 1136, (some (70, true)), .mv (.t 10)⟩,
    ⟨(some 72), 1152, (some (70, true)), .bi false .eql (.t 71) (.c (.int .i64 2))⟩,
    ⟨(some 73), 1168, none, .pick (.t 70) (.t 72) (.c (.bool false))⟩,
    ⟨(some 74), 1184, none, .mv (.t 73)⟩,
    ⟨(some 75), 1200, (some (74, true)), .ld 3 true (.t 1)⟩,
    ⟨(some 76), 1216, (some (74, true)), .call (.c (.fn (.func 22) [] [])) [(.t 75)]⟩,
    ⟨(some 77), 1232, (some (74, true)), .bi false .eql (.t 76) (.c (.int .i64 0))⟩,
    ⟨(some 78), 1248, none, .pick (.t 74) (.t 77) (.c (.bool false))⟩,
    ⟨(some 0), 0, none, .mv (.t 78)⟩])
  .ret)))))))
theorem fits8 : fits Tryd.prog false Tryd.f8 0 79 [(0, none)] = some c8.er := by kernel_rfl
def SN : FT := ⟨[100, 200], [0, 50], [[0, 10], [5, 40]]⟩
def SNs : List PV := [.sl 2 1 2 (fun i => [[PV.int .i64 100], [.int .i64 200]].getD i []), .sl 2 1 2 (fun i => [[PV.int .i64 0], [.int .i64 50]].getD i []),
  .sl 2 1 2 (fun i => [[PV.sl 0 1 2 (fun i => [[PV.int .i64 0], [.int .i64 10]].getD i [])], [.sl 0 1 2 (fun i => [[PV.int .i64 5], [.int .i64 40]].getD i [])]].getD i [])]
theorem SN_rep {X : Cx} {γ : Gh} {w : World} {v : Value} (h : Rep X γ w (.agg SNs) v) : Rep X γ w (.agg (eFT 2 0 SN)) v := by
  obtain ⟨us, rfl, hu, h1⟩ := h.agg_inv
  obtain ⟨u1, us, rfl, a1, hu⟩ := hu.cons_inv
  obtain ⟨u2, us, rfl, a2, hu⟩ := hu.cons_inv
  obtain ⟨u3, us, rfl, a3, hu⟩ := hu.cons_inv
  have hr : RepL X γ w (eFT 2 0 SN) (u1 :: u2 :: u3 :: us) := by
    refine RepL.cons_ (a1.sl_row (rowEq2 rfl rfl)) (RepL.cons_ (a2.sl_row (rowEq2 rfl rfl)) (RepL.cons_ (a3.sl_nest fun i hi => ?_) hu))
    match i, hi with
    | 0, _ => exact ⟨0, 1, 2, _, _, rfl, rfl, rowEq2 rfl rfl⟩
    | 1, _ => exact ⟨0, 1, 2, _, _, rfl, rfl, rowEq2 rfl rfl⟩
  exact .agg _ _ hr.1 h1 hr.2
theorem SN_call {f : FuncId} {rest : List PV} {c : CallRes} (h : PureCall Tryd.prog f (.agg (eFT 2 0 SN) :: rest) [] c) : PureCall Tryd.prog f (.agg SNs :: rest) [] c :=
  h.arg_sem fun X γ w vals hv => by
    obtain ⟨u, us, rfl, a, b⟩ := hv.cons_inv
    exact RepL.cons_ (SN_rep a) b
def snT : List UInt8 := [105, 110, 102, 108, 111, 119, 32, 48, 32, 53, 48, 10, 108, 101, 118, 101, 108, 32, 49, 48, 48, 32, 48, 32, 49, 48, 10, 108, 101, 118, 101, 108, 32, 50, 48, 48, 32, 53, 32, 52, 48, 10]
def snB : List UInt8 := [105, 110, 102, 108, 111, 119, 32, 48, 32, 53, 10, 108, 101, 118, 101, 108, 32, 120, 10]
theorem sn_rel : relF SN 150 60 = (10, 0) := by decide +kernel
theorem sn_fmt : formatF SN = (snT, 0) := by decide +kernel
theorem ft_eq {a : FT} {l m : List Int} {r : List (List Int)} (h : (a.lv, a.inf, a.rel) = (l, m, r)) : a = ⟨l, m, r⟩ := by
  obtain ⟨x, y, z⟩ := a
  simp only [Prod.mk.injEq] at h
  obtain ⟨rfl, rfl, rfl⟩ := h; rfl
theorem sn_parse : parseF snT = (SN, 0, 0) := by
  have h1 : (parseF snT).1 = SN := ft_eq (by decide +kernel)
  have h2 : (parseF snT).2 = (0, 0) := by decide +kernel
  rw [← h1, ← h2]
theorem sn_bad : parseF snB = (FT0, 2, 7) := by
  have h1 : (parseF snB).1 = FT0 := ft_eq (by decide +kernel)
  have h2 : (parseF snB).2 = (2, 7) := by decide +kernel
  rw [← h1, ← h2]
theorem sn_rows : ∀ i, i < SN.rel.length → (SN.rel.getD i default).length ≤ 4611686018427387904 := fun i hi => by
  match i, hi with
  | 0, _ => decide
  | 1, _ => decide
set_option maxRecDepth 100000 in
set_option maxHeartbeats 16000000 in
theorem call8 : PureCall Tryd.prog 8 [] [] ⟨.bool true, [], []⟩ := by
  refine pure_call mix Tryd.func8 fits8 rfl ?_
  conv => whnf
  refine ⟨_, fun _ => SN_call (call19 1 0 SN 150 60 (by decide) (by decide) (by decide) sn_rows), ?_⟩
  rw [sn_rel]
  conv => whnf
  refine ⟨_, fun _ => SN_call (call17 0 SN (by decide) (by decide) (by decide) sn_rows), ?_⟩
  rw [sn_fmt]
  conv => whnf
  refine ⟨_, fun _ => call14 snT (by decide), ?_⟩
  rw [sn_parse]
  conv => whnf
  refine ⟨_, fun _ => call14 snB (by decide), ?_⟩
  rw [sn_bad]
  conv => whnf
  refine ⟨_, fun _ => SN_call (call18 1 0 0 0 SN SN (by decide) (by decide) (by decide) sn_rows), ?_⟩
  rw [show sameF SN SN = true by decide +kernel]
  conv => whnf
  refine ⟨_, fun _ => SN_call (call22 2 0 SN (by decide) (by decide) (by decide) sn_rows), ?_⟩
  rw [show checkF SN = 0 by decide +kernel]
  conv => whnf
  refine ⟨?_, [], ?_⟩
  · (try conv => whnf)
    (repeat' (first | exact True.intro | exact fun _ h => h | refine inR64_of ?_ ?_ | apply And.intro | refine maxLen_ge ?_)) <;> (first | omega | decide | (dsimp only; omega) | (dsimp only [List.length_cons, List.length_nil]; omega) | (intro hg; rw [hg]; rfl) | (intro hg hh; rw [hg, hh]; rfl) | (intro hg; simp [-List.getD_eq_getElem?_getD, -Int.default_eq_zero] at hg; first | omega | (refine inR64_of ?_ ?_ <;> omega) | (constructor <;> omega)) | (simp [-List.getD_eq_getElem?_getD, -Int.default_eq_zero]; done))
  conv => whnf
  refine ⟨rfl, ?_, trivial, trivial⟩
  all_goals repeat' (first | exact True.intro | refine leF_cons rfl ?_ ?_ | refine leS_cons rfl ?_ ?_ | (show PLe _ _ _ _; conv => whnf) | (show SLe _ _ _ _; conv => whnf) | (show PLeL _ _ _ _; conv => whnf) | apply And.intro | rfl | exact Nat.le_refl _ | exact fun _ _ => rfl | exact rowEq0 _ _)
end Pv
end Go.Proofs.YtcfcmafmdpbjoaaDoor
/- LAW 24, THE WALKS: made tables. -/
set_option linter.unusedSimpArgs false
set_option linter.unusedVariables false
namespace Go.Proofs.YtcfcmafmdpbjoaaDoor
namespace Pv
def c11L2 : C := (.seq (.reg [⟨(some 23), 368, none, .bi false .lss (.t 22) (.t 21)⟩])
  (.seq (.cond (.t 23) .skip (.exit 2))
  (.seq (.block 3 (.seq (.reg [⟨(some 24), 384, none, .mv (.t 22)⟩,
    ⟨(some 6), 96, none, .mv (.t 24)⟩])
  (.seq (.reg [⟨(some 25), 400, none, .mv (.t 0)⟩,
    ⟨(some 26), 416, none, .call (.c (.fn (.func 27) [] [])) [(.t 25), (.c (.int .i64 8))]⟩,
    ⟨(some 7), 112, none, .mv (.t 26)⟩])
  (.seq (.seq (.reg [⟨(some 27), 432, none, .mv (.t 6)⟩,
    ⟨(some 28), 448, none, .bi false .gtr (.t 27) (.c (.int .i64 0))⟩])
  (.cond (.t 28) (.reg [⟨(some 29), 464, none, .mv (.t 7)⟩,
    ⟨(some 30), 480, none, .mv (.t 5)⟩,
    ⟨(some 31), 496, none, .mv (.t 6)⟩,
    ⟨(some 32), 512, none, .bi false .sub (.t 31) (.c (.int .i64 1))⟩,
    ⟨(some 33), 528, none, .ia 1 (.t 30) (.t 32)⟩,
    ⟨(some 34), 544, none, .ld 1 false (.t 33)⟩,
    ⟨(some 35), 560, none, .bi false .add (.t 29) (.t 34)⟩,
    ⟨(some 7), 112, none, .mv (.t 35)⟩]) .skip))
  (.seq (.seq (.reg [⟨(some 36), 576, none, .mv (.t 4)⟩,
    ⟨(some 37), 592, none, .bi false .gtr (.t 36) (.c (.int .i64 0))⟩])
  (.cond (.t 37) (.reg [⟨(some 38), 608, none, .mv (.t 7)⟩,
    ⟨(some 39), 624, none, .fa 2 (.t 3)⟩,
    ⟨(some 40), 640, none, .ld 1 false (.t 39)⟩,
    ⟨(some 41), 656, none, .mv (.t 4)⟩,
    ⟨(some 42), 672, none, .bi false .sub (.t 41) (.c (.int .i64 1))⟩,
    ⟨(some 43), 688, none, .ia 1 (.t 40) (.t 42)⟩,
    ⟨(some 44), 704, none, .ld 1 false (.t 43)⟩,
    ⟨(some 45), 720, none, .mv (.t 6)⟩,
    ⟨(some 46), 736, none, .ia 1 (.t 44) (.t 45)⟩,
    ⟨(some 47), 752, none, .ld 1 false (.t 46)⟩,
    ⟨(some 48), 768, none, .mx [(.t 38), (.t 47)]⟩,
    ⟨(some 7), 112, none, .mv (.t 48)⟩]) .skip))
  (.reg [⟨(some 49), 784, none, .mv (.t 5)⟩,
    ⟨(some 50), 800, none, .mv (.t 7)⟩,
    ⟨(some 51), 816, none, .bs 3 1 [(.t 50)]⟩,
    ⟨(some 52), 832, none, .app 3 1 8 (.t 49) (.t 51)⟩,
    ⟨(some 5), 80, none, .mv (.t 52)⟩]))))))
  (.reg [⟨(some 53), 848, none, .bi false .add (.t 22) (.c (.int .i64 1))⟩,
    ⟨(some 22), 352, none, .mv (.t 53)⟩]))))
def c11L1 : C := (.seq (.reg [⟨(some 17), 272, none, .bi false .lss (.t 16) (.t 15)⟩])
  (.seq (.cond (.t 17) .skip (.exit 0))
  (.seq (.block 1 (.seq (.reg [⟨(some 18), 288, none, .mv (.t 16)⟩,
    ⟨(some 4), 64, none, .mv (.t 18)⟩])
  (.seq (.reg [⟨(some 5), 80, none, .mv (.c (.nil 1))⟩])
  (.seq (.seq (.reg [⟨(some 19), 304, none, .fa 1 (.t 3)⟩,
    ⟨(some 20), 320, none, .ld 1 false (.t 19)⟩,
    ⟨(some 21), 336, none, .len (.t 20)⟩,
    ⟨(some 22), 352, none, .mv (.c (.int .i64 0))⟩])
  (.block 2 (.loop c11L2)))
  (.reg [⟨(some 54), 864, none, .fa 2 (.t 3)⟩,
    ⟨(some 55), 880, none, .ld 1 false (.t 54)⟩,
    ⟨(some 56), 896, none, .mv (.t 5)⟩,
    ⟨(some 57), 912, none, .bs 22 1 [(.t 56)]⟩,
    ⟨(some 58), 928, none, .app 22 1 24 (.t 55) (.t 57)⟩,
    ⟨(some 59), 944, none, .fa 2 (.t 3)⟩,
    ⟨none, 0, none, .st 1 (.t 59) (.t 58)⟩])))))
  (.reg [⟨(some 60), 960, none, .bi false .add (.t 16) (.c (.int .i64 1))⟩,
    ⟨(some 16), 256, none, .mv (.t 60)⟩]))))
def c11 : C := (.seq (.reg [⟨(some 2), 32, none, .al [(.nil 1), (.nil 1), (.nil 1)]⟩])
  (.seq (.reg [⟨(some 8), 128, none, .mv (.t 0)⟩,
    ⟨(some 9), 144, none, .call (.c (.fn (.func 26) [] [])) [(.t 8), (.c (.int .i64 90)), (.c (.int .i64 40))]⟩,
    ⟨(some 10), 160, none, .mv (.t 0)⟩,
    ⟨(some 11), 176, none, .call (.c (.fn (.func 26) [] [])) [(.t 10), (.c (.int .i64 0)), (.c (.int .i64 12))]⟩,
    ⟨(some 12), 192, none, .bd [(.nil 1), (.nil 1), (.nil 1)] [(0, 1, (.t 9)), (1, 1, (.t 11))]⟩,
    ⟨(some 3), 48, none, .al [(.nil 1), (.nil 1), (.nil 1)]⟩,
    ⟨none, 0, none, .st 3 (.t 3) (.t 12)⟩])
  (.seq (.seq (.reg [⟨(some 13), 208, none, .fa 0 (.t 3)⟩,
    ⟨(some 14), 224, none, .ld 1 false (.t 13)⟩,
    ⟨(some 15), 240, none, .len (.t 14)⟩,
    ⟨(some 16), 256, none, .mv (.c (.int .i64 0))⟩])
  (.block 0 (.loop c11L1)))
  (.seq (.reg [⟨(some 61), 976, none, .ld 3 true (.t 3)⟩,
    ⟨none, 0, none, .st 3 (.t 2) (.t 61)⟩])
  .ret))))
theorem fits11 : fits Tryd.prog false Tryd.f11 1 62 [(2, some (3, true))] = some c11.er := by kernel_rfl
def it {α : Type} (f : α → α) : Nat → α → α
  | 0, s => s
  | n + 1, s => it f n (f s)
def cellX (up : Option (List Int)) (s : List Int × Dk) : Int :=
  let x := if 0 < s.1.length then nxt s.2 8 + s.1.getD (s.1.length - 1) default else nxt s.2 8
  match up with
  | none => x
  | some u => mx x (u.getD s.1.length default)
def cellN (up : Option (List Int)) (s : List Int × Dk) : List Int × Dk := (s.1 ++ [cellX up s], nxtD s.2 8)
def rowS (up : Option (List Int)) (n : Nat) (d : Dk) : List Int × Dk := it (cellN up) n ([], d)
def tabN (n : Nat) (s : List (List Int) × Dk) : List (List Int) × Dk := (s.1 ++ [(rowS (abO s.1 s.1.length) n s.2).1], (rowS (abO s.1 s.1.length) n s.2).2)
def tabF (d : Dk) : FT × Dk :=
  let a := axisS d 90 40
  let b := axisS a.d 0 12
  let r := it (tabN b.l.length) a.l.length ([], b.d)
  (⟨a.l, b.l, r.1⟩, r.2)
theorem axI_at (step : Int) : ∀ (k : Nat) (s : Axs), (axI step k s).d.at_ ≤ s.d.at_ + k ∧ (axI step k s).l.length = s.l.length + k
  | 0, s => ⟨Nat.le_refl _, rfl⟩
  | k + 1, s => by
    have h := axI_at step k (axN step s)
    have h2 := nxtD_at s.d step
    unfold axI
    have e1 : (axN step s).d.at_ = (nxtD s.d step).at_ := rfl
    have e2 : (axN step s).l.length = s.l.length + 1 := by simp [axN]
    omega
theorem axisS_at (d : Dk) (start step : Int) : (axisS d start step).d.at_ ≤ d.at_ + 6 ∧ 1 ≤ (axisS d start step).l.length ∧ (axisS d start step).l.length ≤ 4 := by
  have h := axI_at step ((nxt (nxtD d step) 4).toNat + 1) ⟨[], start + nxt d step, nxtD (nxtD d step) 4⟩
  have r := nxt_lt (nxtD d step) (n := 4) (by omega)
  have h1 := nxtD_at d step
  have h2 := nxtD_at (nxtD d step) 4
  unfold axisS
  simp only [List.length_nil] at h
  have e1 : (⟨[], start + nxt d step, nxtD (nxtD d step) 4⟩ : Axs).d.at_ = (nxtD (nxtD d step) 4).at_ := rfl
  omega
def RowOK (l : List Int) : Prop := ∀ k, k < l.length → 0 ≤ l.getD k default ∧ l.getD k default ≤ 7 * ((k : Int) + 1)
def RelOK (n : Nat) (rel : List (List Int)) : Prop := ∀ j, j < rel.length → (rel.getD j default).length = n ∧ RowOK (rel.getD j default)
theorem rowOK_push {l : List Int} {x : Int} (h : RowOK l) (hx : 0 ≤ x ∧ x ≤ 7 * ((l.length : Int) + 1)) : RowOK (l ++ [x]) := fun k hk => by
  rw [List.length_append, List.length_cons, List.length_nil] at hk
  by_cases hk2 : k < l.length
  · have := h k hk2
    rw [List.getD_eq_getElem?_getD] at this ⊢
    rw [List.getElem?_append_left hk2]; exact this
  · have e : k = l.length := by omega
    subst e
    rw [List.getD_eq_getElem?_getD, List.getElem?_append_right (Nat.le_refl _), Nat.sub_self]
    exact hx
theorem relOK_push {n : Nat} {rel : List (List Int)} {l : List Int} (h : RelOK n rel) (hl : l.length = n) (hx : RowOK l) : RelOK n (rel ++ [l]) := fun k hk => by
  rw [List.length_append, List.length_cons, List.length_nil] at hk
  by_cases hk2 : k < rel.length
  · have := h k hk2
    rw [List.getD_eq_getElem?_getD] at this ⊢
    rw [List.getElem?_append_left hk2]; exact this
  · have e : k = rel.length := by omega
    subst e
    rw [List.getD_eq_getElem?_getD, List.getElem?_append_right (Nat.le_refl _), Nat.sub_self]
    exact ⟨hl, hx⟩
theorem cell_rng {up : Option (List Int)} {l : List Int} {d : Dk} (hl : RowOK l) (hu : ∀ u, up = some u → l.length < u.length ∧ RowOK u) : 0 ≤ cellX up (l, d) ∧ cellX up (l, d) ≤ 7 * ((l.length : Int) + 1) := by
  have r := nxt_lt d (n := 8) (by omega)
  have hb : 0 ≤ (if 0 < l.length then nxt d 8 + l.getD (l.length - 1) default else nxt d 8) ∧ (if 0 < l.length then nxt d 8 + l.getD (l.length - 1) default else nxt d 8) ≤ 7 * ((l.length : Int) + 1) := by
    split
    · rename_i h
      have := hl (l.length - 1) (by omega)
      omega
    · omega
  unfold cellX
  dsimp only
  generalize (if 0 < l.length then nxt d 8 + l.getD (l.length - 1) default else nxt d 8) = x at hb ⊢
  cases up with
  | none => exact hb
  | some u =>
    obtain ⟨h1, h2⟩ := hu u rfl
    have := h2 _ h1
    dsimp only
    unfold mx
    split <;> omega
theorem up_ok {n : Nat} {rel : List (List Int)} (h : RelOK n rel) {u : List Int} (hu : abO rel rel.length = some u) : u.length = n ∧ RowOK u := by
  cases hl : rel.length with
  | zero => rw [hl] at hu; cases hu
  | succ k =>
    rw [hl] at hu
    injection hu with hu; subst hu
    exact h k (by omega)
theorem abO_zero {rel : List (List Int)} (h : rel.length = 0) : abO rel rel.length = none := by rw [h]; rfl
theorem abO_pos {rel : List (List Int)} (h : 0 < rel.length) : abO rel rel.length = some (rel.getD ((rel.length : Int) - 1).toNat default) := by
  have e : ((rel.length : Int) - 1).toNat = rel.length - 1 := by omega
  rw [e]
  cases hl : rel.length with
  | zero => omega
  | succ k => rfl
set_option maxRecDepth 100000 in
set_option maxHeartbeats 16000000 in
theorem call11 (d : Dk) (hd : d.at_ ≤ 900000) : PureCall Tryd.prog 11 [.pt 0 0 0] [.box (eDk 1 d)] ⟨.agg (eFT 0 0 (tabF d).1), [.box (eDk 1 (tabF d).2)], []⟩ := by
  refine pure_call mix Tryd.func11 fits11 rfl ?_
  conv => whnf
  refine ⟨_, fun _ => call26 d 90 40 (by omega) (by omega) (by omega), ?_⟩
  conv => whnf
  have ha := axisS_at d 90 40
  unfold tabF
  dsimp only
  generalize axisS d 90 40 = A at ha ⊢
  refine ⟨_, fun _ => call26 A.d 0 12 (by omega) (by omega) (by omega), ?_⟩
  have hb := axisS_at A.d 0 12
  generalize axisS A.d 0 12 = B at hb ⊢
  conv => whnf
  refine ⟨?_, ?_⟩
  · exact g0
  refine LSem.adoptF 48 2 1000001 22 1 1 _ rfl rfl rfl ?_
  refine LSem.loop (n := 62) mix (α := Nat × List (List Int) × Dk) (fun s => s.1 + s.2.1.length = A.l.length ∧ it (tabN B.l.length) s.1 s.2 = it (tabN B.l.length) A.l.length ([], B.d) ∧ RelOK B.l.length s.2.1 ∧ s.2.2.at_ ≤ 901000 + 10 * s.2.1.length)
    (fun s => [(0, .pt 0 0 0), (2, .pt 32 0 0), (3, .pt 48 0 0), (15, .int .i64 A.l.length), (16, .int .i64 s.2.1.length)])
    (fun s => [(0, .box (eDk 1 s.2.2)), (32, .box [.nil 1, .nil 1, .nil 1]), (48, .box [.sl 0 1 A.l.length (fl eInt A.l), .sl 0 1 B.l.length (fl eInt B.l), .os 1000001]), (1000001, .row 0 22 1 s.2.1.length (fl (eIs 0) s.2.1))]) (fun s => s.1) (A.l.length, [], B.d) ?_ ?_ ?_
  · exact ⟨rfl, rfl, fun j hj => absurd hj (Nat.not_lt_zero _), by dsimp only; omega⟩
  · refine ⟨rfl, rfl, ?_, ?_⟩
    all_goals repeat' (first | exact True.intro | refine leF_cons rfl ?_ ?_ | refine leS_cons rfl ?_ ?_ | (show PLe _ _ _ _; conv => whnf) | (show SLe _ _ _ _; conv => whnf) | (show PLeL _ _ _ _; conv => whnf) | apply And.intro | rfl | exact Nat.le_refl _ | exact fun _ _ => rfl | exact rowEq0 _ _)
  · intro s hs
    obtain ⟨m, rel, e⟩ := s
    obtain ⟨k1, k2, k3, k4⟩ := hs
    dsimp only at k1 k2 k3 k4
    conv => whnf
    refine ⟨trivial, fun hc => ?_, fun hc => ?_⟩
    · replace hc := of_decide_eq_true hc
      have hm : 0 < m := by
        have h : (rel.length : Int) < A.l.length := hc
        omega
      conv => whnf
      refine ⟨?_, ?_⟩
      · exact g0
      refine LSem.adopt 5 1000000 3 1 1 rfl rfl ?_
      let U := abO rel rel.length
      refine LSem.loop (n := 62) mix (α := Nat × List Int × Dk) (fun s => s.1 + s.2.1.length = B.l.length ∧ it (cellN U) s.1 s.2 = rowS U B.l.length e ∧ RowOK s.2.1 ∧ s.2.2.at_ ≤ e.at_ + s.2.1.length)
        (fun s => [(0, .pt 0 0 0), (2, .pt 32 0 0), (3, .pt 48 0 0), (4, .int .i64 rel.length), (5, .os 1000000), (15, .int .i64 A.l.length), (16, .int .i64 rel.length), (21, .int .i64 B.l.length), (22, .int .i64 s.2.1.length)])
        (fun s => [(0, .box (eDk 1 s.2.2)), (32, .box [.nil 1, .nil 1, .nil 1]), (48, .box [.sl 0 1 A.l.length (fl eInt A.l), .sl 0 1 B.l.length (fl eInt B.l), .os 1000001]), (1000001, .row 0 22 1 rel.length (fl (eIs 0) rel)), (1000000, .row 0 3 1 s.2.1.length (fl eInt s.2.1))]) (fun s => s.1) (B.l.length, [], e) ?_ ?_ ?_
      · exact ⟨rfl, rfl, fun j hj => absurd hj (Nat.not_lt_zero _), Nat.le_refl _⟩
      · refine ⟨rfl, rfl, ?_, ?_⟩
        all_goals repeat' (first | exact True.intro | refine leF_cons rfl ?_ ?_ | refine leS_cons rfl ?_ ?_ | (show PLe _ _ _ _; conv => whnf) | (show SLe _ _ _ _; conv => whnf) | (show PLeL _ _ _ _; conv => whnf) | apply And.intro | rfl | exact Nat.le_refl _ | exact fun _ _ => rfl | exact rowEq0 _ _)
      · intro s hs
        obtain ⟨j, l, f⟩ := s
        obtain ⟨i1, i2, i3, i4⟩ := hs
        dsimp only at i1 i2 i3 i4
        conv => whnf
        refine ⟨trivial, fun hc2 => ?_, fun hc2 => ?_⟩
        · replace hc2 := of_decide_eq_true hc2
          have hj0 : 0 < j := by
            have h : (l.length : Int) < B.l.length := hc2
            omega
          have r3 := nxt_lt f (n := 8) (by omega)
          have a3 := nxtD_at f 8
          have hrng := cell_rng (up := U) (d := f) i3 fun u hu => by
            obtain ⟨g1, g2⟩ := up_ok k3 hu
            exact ⟨by omega, g2⟩
          conv => whnf
          refine ⟨_, fun _ => call_next 1 f 8 (by omega) (by omega), ?_⟩
          have e9 : ((l.length : Int) - 1).toNat = l.length - 1 := by omega
          have e8 : ((l.length : Int)).toNat = l.length := by omega
          have e7 : ((rel.length : Int) - 1).toNat = rel.length - 1 := by omega
          conv => whnf
          refine ⟨?_, fun hc3 => ?_, fun hc3 => ?_⟩
          · exact g0
          · simp only [bp] at hc3
            have hl0 : 0 < l.length := by omega
            have hprev := i3 ((l.length : Int) - 1).toNat (by omega)
            conv => whnf
            refine ⟨?_, fun hc4 => ?_, fun hc4 => ?_⟩
            · exact g0
            · simp only [bp] at hc4
              have hr0 : 0 < rel.length := by omega
              have hU := abO_pos hr0
              have hX : cellX U (l, f) = mx (nxt f 8 + l.getD ((l.length : Int) - 1).toNat default) ((rel.getD ((rel.length : Int) - 1).toNat default).getD ((l.length : Int)).toNat default) := by
                show (match abO rel rel.length with | none => _ | some u => mx _ (u.getD l.length default)) = _
                rw [hU]
                dsimp only
                rw [if_pos hl0, show ((l.length : Int) - 1).toNat = l.length - 1 by omega, show ((l.length : Int)).toNat = l.length by omega]
              have hup := (k3 ((rel.length : Int) - 1).toNat (by omega)).1
              have e7 : ((rel.length : Int) - 1).toNat = rel.length - 1 := by omega
              have e8 : ((l.length : Int)).toNat = l.length := by omega
              have e9 : ((l.length : Int) - 1).toNat = l.length - 1 := by omega
              conv => whnf
              refine ⟨?_, (j - 1, l ++ [mx (nxt f 8 + l.getD ((l.length : Int) - 1).toNat default) ((rel.getD ((rel.length : Int) - 1).toNat default).getD ((l.length : Int)).toNat default)], nxtD f 8), ⟨?_, ?_, ?_, ?_⟩, ?_, rfl, rfl, ?_, ?_⟩
              · exact g0
              · dsimp only; rw [List.length_append, List.length_cons, List.length_nil]; omega
              · rw [← i2]; dsimp only
                rw [show j = (j - 1) + 1 by omega]
                show it _ (j - 1) _ = it _ (j - 1) (cellN U (l, f))
                rw [show cellN U (l, f) = (l ++ [cellX U (l, f)], nxtD f 8) from rfl, hX]
              · rw [hX] at hrng; exact rowOK_push i3 hrng
              · dsimp only; rw [List.length_append, List.length_cons, List.length_nil]; omega
              · dsimp only; omega
              all_goals repeat' (first | exact True.intro | refine leF_cons rfl ?_ ?_ | refine leS_cons rfl ?_ ?_ | (show PLe _ _ _ _; conv => whnf) | (show SLe _ _ _ _; conv => whnf) | (show PLeL _ _ _ _; conv => whnf) | apply And.intro | rfl | exact Nat.le_refl _ | exact fun _ _ => rfl | exact rowEq0 _ _)
              all_goals first | omega | exact fl_push eInt l _ | (show _ + 1 = _; simp only [List.length_append, List.length_cons, List.length_nil]; done) | (dsimp only; rw [List.length_append]; simp only [List.length_cons, List.length_nil]; omega) | skip
            · simp only [bp] at hc4
              have hr0 : rel.length = 0 := by omega
              have hU := abO_zero hr0
              have hX : cellX U (l, f) = nxt f 8 + l.getD ((l.length : Int) - 1).toNat default := by
                show (match abO rel rel.length with | none => _ | some u => mx _ (u.getD l.length default)) = _
                rw [hU]
                dsimp only
                rw [if_pos hl0, show ((l.length : Int) - 1).toNat = l.length - 1 by omega]
              have e9 : ((l.length : Int) - 1).toNat = l.length - 1 := by omega
              conv => whnf
              refine ⟨?_, (j - 1, l ++ [nxt f 8 + l.getD ((l.length : Int) - 1).toNat default], nxtD f 8), ⟨?_, ?_, ?_, ?_⟩, ?_, rfl, rfl, ?_, ?_⟩
              · exact g0
              · dsimp only; rw [List.length_append, List.length_cons, List.length_nil]; omega
              · rw [← i2]; dsimp only
                rw [show j = (j - 1) + 1 by omega]
                show it _ (j - 1) _ = it _ (j - 1) (cellN U (l, f))
                rw [show cellN U (l, f) = (l ++ [cellX U (l, f)], nxtD f 8) from rfl, hX]
              · rw [hX] at hrng; exact rowOK_push i3 hrng
              · dsimp only; rw [List.length_append, List.length_cons, List.length_nil]; omega
              · dsimp only; omega
              all_goals repeat' (first | exact True.intro | refine leF_cons rfl ?_ ?_ | refine leS_cons rfl ?_ ?_ | (show PLe _ _ _ _; conv => whnf) | (show SLe _ _ _ _; conv => whnf) | (show PLeL _ _ _ _; conv => whnf) | apply And.intro | rfl | exact Nat.le_refl _ | exact fun _ _ => rfl | exact rowEq0 _ _)
              all_goals first | omega | exact fl_push eInt l _ | (show _ + 1 = _; simp only [List.length_append, List.length_cons, List.length_nil]; done) | (dsimp only; rw [List.length_append]; simp only [List.length_cons, List.length_nil]; omega) | skip
          · simp only [bp] at hc3
            have hl0 : ¬ 0 < l.length := by omega
            conv => whnf
            refine ⟨?_, fun hc4 => ?_, fun hc4 => ?_⟩
            · exact g0
            · simp only [bp] at hc4
              have hr0 : 0 < rel.length := by omega
              have hU := abO_pos hr0
              have hX : cellX U (l, f) = mx (nxt f 8) ((rel.getD ((rel.length : Int) - 1).toNat default).getD ((l.length : Int)).toNat default) := by
                show (match abO rel rel.length with | none => _ | some u => mx _ (u.getD l.length default)) = _
                rw [hU]
                dsimp only
                rw [if_neg hl0, show ((l.length : Int)).toNat = l.length by omega]
              have hup := (k3 ((rel.length : Int) - 1).toNat (by omega)).1
              have e7 : ((rel.length : Int) - 1).toNat = rel.length - 1 := by omega
              have e8 : ((l.length : Int)).toNat = l.length := by omega
              have e9 : ((l.length : Int) - 1).toNat = l.length - 1 := by omega
              conv => whnf
              refine ⟨?_, (j - 1, l ++ [mx (nxt f 8) ((rel.getD ((rel.length : Int) - 1).toNat default).getD ((l.length : Int)).toNat default)], nxtD f 8), ⟨?_, ?_, ?_, ?_⟩, ?_, rfl, rfl, ?_, ?_⟩
              · exact g0
              · dsimp only; rw [List.length_append, List.length_cons, List.length_nil]; omega
              · rw [← i2]; dsimp only
                rw [show j = (j - 1) + 1 by omega]
                show it _ (j - 1) _ = it _ (j - 1) (cellN U (l, f))
                rw [show cellN U (l, f) = (l ++ [cellX U (l, f)], nxtD f 8) from rfl, hX]
              · rw [hX] at hrng; exact rowOK_push i3 hrng
              · dsimp only; rw [List.length_append, List.length_cons, List.length_nil]; omega
              · dsimp only; omega
              all_goals repeat' (first | exact True.intro | refine leF_cons rfl ?_ ?_ | refine leS_cons rfl ?_ ?_ | (show PLe _ _ _ _; conv => whnf) | (show SLe _ _ _ _; conv => whnf) | (show PLeL _ _ _ _; conv => whnf) | apply And.intro | rfl | exact Nat.le_refl _ | exact fun _ _ => rfl | exact rowEq0 _ _)
              all_goals first | omega | exact fl_push eInt l _ | (show _ + 1 = _; simp only [List.length_append, List.length_cons, List.length_nil]; done) | (dsimp only; rw [List.length_append]; simp only [List.length_cons, List.length_nil]; omega) | skip
            · simp only [bp] at hc4
              have hr0 : rel.length = 0 := by omega
              have hU := abO_zero hr0
              have hX : cellX U (l, f) = nxt f 8 := by
                show (match abO rel rel.length with | none => _ | some u => mx _ (u.getD l.length default)) = _
                rw [hU]
                dsimp only
                rw [if_neg hl0]
              have e9 : ((l.length : Int) - 1).toNat = l.length - 1 := by omega
              conv => whnf
              refine ⟨?_, (j - 1, l ++ [nxt f 8], nxtD f 8), ⟨?_, ?_, ?_, ?_⟩, ?_, rfl, rfl, ?_, ?_⟩
              · exact g0
              · dsimp only; rw [List.length_append, List.length_cons, List.length_nil]; omega
              · rw [← i2]; dsimp only
                rw [show j = (j - 1) + 1 by omega]
                show it _ (j - 1) _ = it _ (j - 1) (cellN U (l, f))
                rw [show cellN U (l, f) = (l ++ [cellX U (l, f)], nxtD f 8) from rfl, hX]
              · rw [hX] at hrng; exact rowOK_push i3 hrng
              · dsimp only; rw [List.length_append, List.length_cons, List.length_nil]; omega
              · dsimp only; omega
              all_goals repeat' (first | exact True.intro | refine leF_cons rfl ?_ ?_ | refine leS_cons rfl ?_ ?_ | (show PLe _ _ _ _; conv => whnf) | (show SLe _ _ _ _; conv => whnf) | (show PLeL _ _ _ _; conv => whnf) | apply And.intro | rfl | exact Nat.le_refl _ | exact fun _ _ => rfl | exact rowEq0 _ _)
              all_goals first | omega | exact fl_push eInt l _ | (show _ + 1 = _; simp only [List.length_append, List.length_cons, List.length_nil]; done) | (dsimp only; rw [List.length_append]; simp only [List.length_cons, List.length_nil]; omega) | skip
        · replace hc2 := of_decide_eq_false hc2
          have hj0 : j = 0 := by
            have h : ¬ (l.length : Int) < B.l.length := hc2
            omega
          subst hj0
          have hrow : (l, f) = rowS U B.l.length e := i2
          have q := fl_push (eIs 0) rel l
          conv => whnf
          refine ⟨?_, (m - 1, rel ++ [l], f), ⟨?_, ?_, ?_, ?_⟩, ?_, rfl, rfl, ?_, ?_⟩
          · exact g0
          · dsimp only; rw [List.length_append, List.length_cons, List.length_nil]; omega
          · rw [← k2]; dsimp only
            rw [show m = (m - 1) + 1 by omega]
            show it _ (m - 1) _ = it _ (m - 1) (tabN B.l.length (rel, e))
            have h2 : tabN B.l.length (rel, e) = (rel ++ [(rowS U B.l.length e).1], (rowS U B.l.length e).2) := rfl
            rw [h2, ← hrow]
          · exact relOK_push k3 (by omega) i3
          · dsimp only; rw [List.length_append, List.length_cons, List.length_nil]; omega
          · dsimp only; omega
          all_goals repeat' (first | exact True.intro | refine leF_cons rfl ?_ ?_ | refine leS_cons rfl ?_ ?_ | (show PLe _ _ _ _; conv => whnf) | (show SLe _ _ _ _; conv => whnf) | (show PLeL _ _ _ _; conv => whnf) | apply And.intro | rfl | exact Nat.le_refl _ | exact fun _ _ => rfl | exact rowEq0 _ _)
          all_goals first | omega | exact q | (show _ + 1 = _; simp only [List.length_append, List.length_cons, List.length_nil]; done) | (dsimp only; rw [List.length_append]; simp only [List.length_cons, List.length_nil]; omega) | skip
    · replace hc := of_decide_eq_false hc
      have hm : m = 0 := by
        have h : ¬ (rel.length : Int) < A.l.length := hc
        omega
      subst hm
      rw [← k2]
      conv => whnf
      refine ⟨?_, [], ?_⟩
      · exact g0
      conv => whnf
      refine ⟨rfl, ?_, ?_, trivial⟩
      all_goals repeat' (first | exact True.intro | refine leF_cons rfl ?_ ?_ | refine leS_cons rfl ?_ ?_ | (show PLe _ _ _ _; conv => whnf) | (show SLe _ _ _ _; conv => whnf) | (show PLeL _ _ _ _; conv => whnf) | apply And.intro | rfl | exact Nat.le_refl _ | exact fun _ _ => rfl | exact rowEq0 _ _)
end Pv
end Go.Proofs.YtcfcmafmdpbjoaaDoor
/- LAW 24, PLAIN: made tables are valid; releases rise. -/
set_option linter.unusedSimpArgs false
set_option linter.unusedVariables false
namespace Go.Proofs.YtcfcmafmdpbjoaaDoor
namespace Pv
theorem getD_push {α : Type} [Inhabited α] {l : List α} {x : α} {k : Nat} (hk : k < l.length) : (l ++ [x]).getD k default = l.getD k default := by
  rw [List.getD_eq_getElem?_getD, List.getD_eq_getElem?_getD, List.getElem?_append_left hk]
theorem getD_last {α : Type} [Inhabited α] {l : List α} {x : α} : (l ++ [x]).getD l.length default = x := by
  rw [List.getD_eq_getElem?_getD, List.getElem?_append_right (Nat.le_refl _), Nat.sub_self]; rfl
theorem scan_none {f : Nat → Int} : ∀ {n i : Nat}, (∀ k, i ≤ k → k < i + n → f k = 0) → scan f i n = 0
  | 0, i, _ => rfl
  | n + 1, i, h => by
    unfold scan
    rw [if_neg (by rw [h i (Nat.le_refl _) (by omega)]; exact fun h => h rfl)]
    exact scan_none fun k h1 h2 => h k (by omega) (by omega)
/-! ### levels and inflows -/
structure AxOK (s : Axs) : Prop where
  x0 : 0 ≤ s.x
  rng : ∀ i, i < s.l.length → 0 ≤ s.l.getD i default ∧ s.l.getD i default < s.x
  up : ∀ i, 0 < i → i < s.l.length → s.l.getD (i - 1) default < s.l.getD i default
theorem axN_ok {step : Int} {s : Axs} (h1 : 1 ≤ step) (h : AxOK s) : AxOK (axN step s) ∧ (axN step s).x ≤ s.x + step := by
  have r := nxt_lt s.d (n := step) (by omega)
  have hx := h.x0
  refine ⟨⟨by show 0 ≤ s.x + (1 + nxt s.d step); omega, fun i hi => ?_, fun i h0 hi => ?_⟩, by show s.x + (1 + nxt s.d step) ≤ _; omega⟩
  · show 0 ≤ (s.l ++ [s.x]).getD i default ∧ (s.l ++ [s.x]).getD i default < s.x + (1 + nxt s.d step)
    have hi2 : i < s.l.length + 1 := by simpa [axN] using hi
    by_cases hk : i < s.l.length
    · rw [getD_push hk]; have := h.rng i hk; omega
    · rw [show i = s.l.length by omega, getD_last]; omega
  · show (s.l ++ [s.x]).getD (i - 1) default < (s.l ++ [s.x]).getD i default
    have hi2 : i < s.l.length + 1 := by simpa [axN] using hi
    by_cases hk : i < s.l.length
    · rw [getD_push hk, getD_push (by omega)]; exact h.up i h0 hk
    · have hi3 : i = s.l.length := by omega
      subst hi3
      rw [getD_last, getD_push (by omega)]; exact (h.rng _ (by omega)).2
theorem axI_ok {step : Int} (h1 : 1 ≤ step) : ∀ (k : Nat) (s : Axs), AxOK s → AxOK (axI step k s) ∧ (axI step k s).x ≤ s.x + step * k
  | 0, s, h => ⟨h, by show s.x ≤ _; simp⟩
  | k + 1, s, h => by
    obtain ⟨g1, g2⟩ := axN_ok h1 h
    obtain ⟨g3, g4⟩ := axI_ok h1 k (axN step s) g1
    refine ⟨g3, ?_⟩
    show (axI step k (axN step s)).x ≤ _
    rw [Int.natCast_add, Int.mul_add]
    simp only [Int.natCast_one, Int.mul_one]
    omega
theorem axis_rise {d : Dk} {start step most : Int} (h0 : 0 ≤ start) (h1 : 1 ≤ step) (hm : start + step + step * 4 ≤ most) : ∀ i, i < (axisS d start step).l.length → riseE (axisS d start step).l most i = 0 := fun i hi => by
  have r := nxt_lt d (n := step) (by omega)
  have r2 := nxt_lt (nxtD d step) (n := 4) (by omega)
  have hs : AxOK ⟨[], start + nxt d step, nxtD (nxtD d step) 4⟩ := ⟨by dsimp only; omega, fun i hi => absurd hi (Nat.not_lt_zero _), fun i _ hi => absurd hi (Nat.not_lt_zero _)⟩
  obtain ⟨g1, g2⟩ := axI_ok h1 ((nxt (nxtD d step) 4).toNat + 1) _ hs
  have g3 := g1.rng i hi
  have g4 : (0 < i) → _ := fun h => g1.up i h hi
  have hb : step * (((nxt (nxtD d step) 4).toNat + 1 : Nat) : Int) ≤ step * 4 := Int.mul_le_mul_of_nonneg_left (by omega) (by omega)
  dsimp only at g2
  change riseE (axI step ((nxt (nxtD d step) 4).toNat + 1) ⟨[], start + nxt d step, nxtD (nxtD d step) 4⟩).l most i = 0
  unfold riseE
  rw [if_neg (by omega), if_neg (by omega)]
/-! ### releases -/
def RS (up : Option (List Int)) (l : List Int) : Prop := ∀ k, k < l.length → 0 ≤ l.getD k default ∧ l.getD k default ≤ 7 * ((k : Int) + 1) ∧ (0 < k → l.getD (k - 1) default ≤ l.getD k default) ∧ ∀ u, up = some u → u.getD k default ≤ l.getD k default
theorem RS.ok {up : Option (List Int)} {l : List Int} (h : RS up l) : RowOK l := fun k hk => ⟨(h k hk).1, (h k hk).2.1⟩
theorem cell_up {up : Option (List Int)} {l : List Int} {d : Dk} (hl : RowOK l) : (0 < l.length → l.getD (l.length - 1) default ≤ cellX up (l, d)) ∧ ∀ u, up = some u → u.getD l.length default ≤ cellX up (l, d) := by
  have r := nxt_lt d (n := 8) (by omega)
  unfold cellX
  dsimp only
  refine ⟨fun h => ?_, fun u hu => ?_⟩
  · rw [if_pos h]
    cases up with
    | none => dsimp only; omega
    | some u => dsimp only; unfold mx; split <;> omega
  · rw [hu]; dsimp only; unfold mx; split <;> omega
theorem RS.push {up : Option (List Int)} {l : List Int} {d : Dk} (h : RS up l) (hu : ∀ u, up = some u → l.length < u.length ∧ RowOK u) : RS up (l ++ [cellX up (l, d)]) := fun k hk => by
  rw [List.length_append, List.length_cons, List.length_nil] at hk
  by_cases hk2 : k < l.length
  · obtain ⟨a, b, c, e⟩ := h k hk2
    rw [getD_push hk2]
    refine ⟨a, b, fun h0 => ?_, e⟩
    rw [getD_push (by omega)]; exact c h0
  · have hk3 : k = l.length := by omega
    subst hk3
    obtain ⟨a, b⟩ := cell_rng (d := d) h.ok hu
    obtain ⟨c, e⟩ := cell_up (up := up) (d := d) h.ok
    rw [getD_last]
    refine ⟨a, b, fun h0 => ?_, e⟩
    rw [getD_push (by omega)]; exact c h0
theorem it_row {up : Option (List Int)} {n : Nat} (hu : ∀ u, up = some u → n ≤ u.length ∧ RowOK u) : ∀ (m : Nat) (l : List Int) (d : Dk), RS up l → l.length + m = n → RS up (it (cellN up) m (l, d)).1 ∧ (it (cellN up) m (l, d)).1.length = n
  | 0, l, d, h, hm => ⟨h, by show l.length = n; omega⟩
  | m + 1, l, d, h, hm => it_row hu m _ _ (h.push fun u hh => ⟨by have := (hu u hh).1; omega, (hu u hh).2⟩) (by dsimp only; rw [List.length_append, List.length_cons, List.length_nil]; omega)
def RelS (n : Nat) (rel : List (List Int)) : Prop := ∀ j, j < rel.length → (rel.getD j default).length = n ∧ RS (abO rel j) (rel.getD j default)
theorem abO_push {rel : List (List Int)} {l : List Int} {j : Nat} (h : j ≤ rel.length) : abO (rel ++ [l]) j = abO rel j := by
  cases j with
  | zero => rfl
  | succ k => show some _ = some _; rw [getD_push (by omega)]
theorem RelS.push {n : Nat} {rel : List (List Int)} {d : Dk} (h : RelS n rel) : RelS n (tabN n (rel, d)).1 := fun j hj => by
  have hup : ∀ u, abO rel rel.length = some u → n ≤ u.length ∧ RowOK u := fun u hu => by
    cases hl : rel.length with
    | zero => rw [hl] at hu; cases hu
    | succ k =>
      rw [hl] at hu
      injection hu with hu; subst hu
      obtain ⟨a, b⟩ := h k (by omega)
      exact ⟨by omega, b.ok⟩
  have hrow := it_row hup n [] d (fun k hk => absurd hk (Nat.not_lt_zero _)) (by simp)
  show ((rel ++ [(rowS (abO rel rel.length) n d).1]).getD j default).length = n ∧ RS (abO (rel ++ [(rowS (abO rel rel.length) n d).1]) j) ((rel ++ [(rowS (abO rel rel.length) n d).1]).getD j default)
  have hj2 : j < rel.length + 1 := by simpa [tabN] using hj
  rw [abO_push (by omega)]
  by_cases hk : j < rel.length
  · rw [getD_push hk]; exact h j hk
  · have hk3 : j = rel.length := by omega
    subst hk3
    rw [getD_last]; exact ⟨hrow.2, hrow.1⟩
theorem it_tab {n : Nat} : ∀ (m : Nat) (rel : List (List Int)) (d : Dk), RelS n rel → RelS n (it (tabN n) m (rel, d)).1 ∧ (it (tabN n) m (rel, d)).1.length = rel.length + m
  | 0, rel, d, h => ⟨h, rfl⟩
  | m + 1, rel, d, h => by
    obtain ⟨a, b⟩ := it_tab m _ (tabN n (rel, d)).2 (h.push (d := d))
    refine ⟨a, ?_⟩
    show (it (tabN n) m (tabN n (rel, d))).1.length = _
    have e : (tabN n (rel, d)).1.length = rel.length + 1 := by simp [tabN]
    have b2 : (it (tabN n) m (tabN n (rel, d))).1.length = (tabN n (rel, d)).1.length + m := b
    omega
theorem RelS.zero {n : Nat} {t : FT} (h : RelS n t.rel) (hn : t.inf.length = n) (hn4 : n ≤ 1000) : ∀ i, i < t.rel.length → relE t i = 0 := fun i hi => by
  obtain ⟨a, b⟩ := h i hi
  unfold relE rowF
  rw [if_neg (by omega)]
  refine (scan_none fun k _ hk => ?_)
  obtain ⟨c, e, f, g⟩ := b k (by omega)
  have hund : under (t.rel.getD i default) (abO t.rel i) k = false := by
    unfold under
    split
    · rfl
    · rename_i u hu
      have := g u hu
      exact decide_eq_false (by omega)
  unfold rowE
  rw [if_neg (by omega), if_neg]
  rw [hund]
  rintro (⟨h1, h2⟩ | h)
  · have := f h1; omega
  · cases h
theorem tabF_parts (d : Dk) : (tabF d).1.lv = (axisS d 90 40).l ∧ (tabF d).1.inf = (axisS (axisS d 90 40).d 0 12).l ∧ (tabF d).1.rel = (it (tabN (axisS (axisS d 90 40).d 0 12).l.length) (axisS d 90 40).l.length ([], (axisS (axisS d 90 40).d 0 12).d)).1 := ⟨rfl, rfl, rfl⟩
theorem tab_ok (d : Dk) : checkF (tabF d).1 = 0 := by
  obtain ⟨e1, e2, e3⟩ := tabF_parts d
  have a1 := axisS_at d 90 40
  have a2 := axisS_at (axisS d 90 40).d 0 12
  have b1 := axis_rise (d := d) (start := 90) (step := 40) (most := 16777216) (by decide) (by decide) (by decide)
  have b2 := axis_rise (d := (axisS d 90 40).d) (start := 0) (step := 12) (most := 1073741824) (by decide) (by decide) (by decide)
  have c := it_tab (n := (axisS (axisS d 90 40).d 0 12).l.length) (axisS d 90 40).l.length [] (axisS (axisS d 90 40).d 0 12).d (fun j hj => absurd hj (Nat.not_lt_zero _))
  have z := RelS.zero (t := (tabF d).1) (n := (axisS (axisS d 90 40).d 0 12).l.length) (by rw [e3]; exact c.1) (by rw [e2]) (by omega)
  have z1 : scan (riseE (tabF d).1.lv 16777216) 0 (tabF d).1.lv.length = 0 := scan_none fun k _ hk => by rw [e1] at hk ⊢; exact b1 k (by omega)
  have z2 : scan (riseE (tabF d).1.inf 1073741824) 0 (tabF d).1.inf.length = 0 := scan_none fun k _ hk => by rw [e2] at hk ⊢; exact b2 k (by omega)
  have z3 : scan (relE (tabF d).1) 0 (tabF d).1.rel.length = 0 := scan_none fun k _ hk => z k (by omega)
  have hlen : (tabF d).1.rel.length = (tabF d).1.lv.length := by rw [e3, e1, c.2]; simp
  unfold checkF
  rw [if_neg (by rw [e1, e2]; omega), z1, z2, z3]
  simp [hlen]
end Pv
end Go.Proofs.YtcfcmafmdpbjoaaDoor
/- LAW 24: releases rise (FloodtableRises). -/
set_option linter.unusedSimpArgs false
set_option linter.unusedVariables false
namespace Go.Proofs.YtcfcmafmdpbjoaaDoor
namespace Pv
def c5L2 : C := (.seq (.reg [⟨(some 63), 1008, none, .bi false .lss (.t 62) (.t 61)⟩])
  (.seq (.cond (.t 63) .skip (.exit 2))
  (.seq (.block 3 (.seq (.reg [⟨(some 64), 1024, none, .ia 1 (.t 60) (.t 62)⟩,
    ⟨(some 65), 1040, none, .ld 1 false (.t 64)⟩,
    ⟨(some 20), 320, none, .mv (.t 65)⟩])
  (.reg [⟨(some 66), 1056, none, .mv (.t 16)⟩,
    ⟨(some 67), 1072, none, .mv (.t 66)⟩,
    ⟨(some 68), 1088, (some (67, false)), .mv (.t 20)⟩,
    ⟨(some 69), 1104, (some (67, false)), .mv (.t 12)⟩,
    ⟨(some 70), 1120, (some (67, false)), .bi false .eql (.t 68) (.t 69)⟩,
    ⟨(some 71), 1136, none, .pick (.t 67) (.c (.bool true)) (.t 70)⟩,
    ⟨(some 16), 256, none, .mv (.t 71)⟩])))
  (.reg [⟨(some 72), 1152, none, .bi false .add (.t 62) (.c (.int .i64 1))⟩,
    ⟨(some 62), 992, none, .mv (.t 72)⟩]))))
def c5L1 : C := (.seq (.reg [⟨(some 57), 912, none, .bi false .lss (.t 56) (.t 55)⟩])
  (.seq (.cond (.t 57) .skip (.exit 0))
  (.seq (.block 1 (.seq (.reg [⟨(some 58), 928, none, .ia 1 (.t 54) (.t 56)⟩,
    ⟨(some 59), 944, none, .ld 1 false (.t 58)⟩,
    ⟨(some 18), 288, none, .mv (.t 59)⟩])
  (.seq (.reg [⟨(some 60), 960, none, .mv (.t 18)⟩,
    ⟨(some 61), 976, none, .len (.t 60)⟩,
    ⟨(some 62), 992, none, .mv (.c (.int .i64 0))⟩])
  (.block 2 (.loop c5L2)))))
  (.reg [⟨(some 73), 1168, none, .bi false .add (.t 56) (.c (.int .i64 1))⟩,
    ⟨(some 56), 896, none, .mv (.t 73)⟩]))))
def c5 : C := (.seq (.reg [⟨(some 10), 160, none, .mv (.c (.bool false))⟩])
  (.seq (.seq (.reg [⟨(some 21), 336, none, .call (.c (.fn (.func 8) [] [])) []⟩,
    ⟨(some 22), 352, none, .un false .not (.t 21)⟩])
  (.cond (.t 22) (.seq (.reg [⟨(some 10), 160, none, .mv (.c (.bool false))⟩])
  .ret) .skip))
  (.seq (.seq (.reg [⟨(some 23), 368, none, .mv (.t 0)⟩,
    ⟨(some 24), 384, none, .call (.c (.fn (.func 9) [] [])) [(.t 23)]⟩,
    ⟨(some 25), 400, none, .un false .not (.t 24)⟩])
  (.cond (.t 25) (.seq (.reg [⟨(some 10), 160, none, .mv (.c (.bool true))⟩])
  .ret) .skip))
  (.seq (.reg [⟨(some 26), 416, none, .mv (.t 0)⟩,
    ⟨(some 27), 432, none, .call (.c (.fn (.func 12) [] [])) [(.t 26)]⟩,
    ⟨(some 28), 448, none, .call (.c (.fn (.func 11) [] [])) [(.t 27)]⟩,
    ⟨(some 11), 176, none, .al [(.nil 1), (.nil 1), (.nil 1)]⟩,
    ⟨none, 0, none, .st 3 (.t 11) (.t 28)⟩])
  (.seq (.reg [⟨(some 30), 480, none, .ld 3 true (.t 11)⟩,
    ⟨(some 31), 496, none, .mv (.t 1)⟩,
    ⟨(some 32), 512, none, .cv false .i64 (.t 31)⟩,
    ⟨(some 33), 528, none, .mv (.t 2)⟩,
    ⟨(some 34), 544, none, .cv false .i64 (.t 33)⟩,
    ⟨(some 35), 560, none, .call (.c (.fn (.func 19) [] [])) [(.t 30), (.t 32), (.t 34)]⟩,
    ⟨(some 29), 464, none, .mv (.t 35)⟩,
    ⟨(some 36), 576, none, .ex (.t 29) 0⟩,
    ⟨(some 37), 592, none, .ex (.t 29) 1⟩,
    ⟨(some 12), 192, none, .mv (.t 36)⟩,
    ⟨(some 13), 208, none, .mv (.t 37)⟩])
  (.seq (.reg [⟨(some 39), 624, none, .ld 3 true (.t 11)⟩,
    ⟨(some 40), 640, none, .mv (.t 1)⟩,
    ⟨(some 41), 656, none, .cv false .i64 (.t 40)⟩,
    ⟨(some 42), 672, none, .mv (.t 3)⟩,
    ⟨(some 43), 688, none, .cv false .i64 (.t 42)⟩,
    ⟨(some 44), 704, none, .bi false .add (.t 41) (.t 43)⟩,
    ⟨(some 45), 720, none, .mv (.t 2)⟩,
    ⟨(some 46), 736, none, .cv false .i64 (.t 45)⟩,
    ⟨(some 47), 752, none, .mv (.t 4)⟩,
    ⟨(some 48), 768, none, .cv false .i64 (.t 47)⟩,
    ⟨(some 49), 784, none, .bi false .add (.t 46) (.t 48)⟩,
    ⟨(some 50), 800, none, .call (.c (.fn (.func 19) [] [])) [(.t 39), (.t 44), (.t 49)]⟩,
    ⟨(some 38), 608, none, .mv (.t 50)⟩,
    ⟨(some 51), 816, none, .ex (.t 38) 0⟩,
    ⟨(some 52), 832, none, .ex (.t 38) 1⟩,
    ⟨(some 14), 224, none, .mv (.t 51)⟩,
    ⟨(some 15), 240, none, .mv (.t 52)⟩])
  (.seq (.reg [⟨(some 16), 256, none, .mv (.c (.bool false))⟩])
  (.seq (.seq (.reg [⟨(some 53), 848, none, .fa 2 (.t 11)⟩,
    ⟨(some 54), 864, none, .ld 1 false (.t 53)⟩,
    ⟨(some 55), 880, none, .len (.t 54)⟩,
    ⟨(some 56), 896, none, .mv (.c (.int .i64 0))⟩])
  (.block 0 (.loop c5L1)))
  (.seq (.reg [⟨(some 74), 1184, none, .mv (.t 13)⟩,
    ⟨(some 75), 1200, none, .bi false .eql (.t 74) (.c (.int .i64 0))⟩,
    ⟨(some 76), 1216, none, .mv (.t 75)⟩,
    ⟨(some 77), 1232, (some (76, true)), .mv (.t 15)⟩,
    ⟨(some 78), 1248, (some (76, true)), .bi false .eql (.t 77) (.c (.int .i64 0))⟩,
    ⟨(some 79), 1264, none, .pick (.t 76) (.t 78) (.c (.bool false))⟩,
    ⟨(some 80), 1280, none, .mv (.t 79)⟩,
    ⟨(some 81), 1296, (some (80, true)), .mv (.t 12)⟩,
    ⟨(some 82), 1312, (some (80, true)), .mv (.t 14)⟩,
    ⟨(some 83), 1328, (some (80, true)), .bi false .leq (.t 81) (.t 82)⟩,
    ⟨(some 84), 1344, none, .pick (.t 80) (.t 83) (.c (.bool false))⟩,
    ⟨(some 85), 1360, none, .mv (.t 84)⟩,
    ⟨(some 86), 1376, (some (85, true)), .mv (.t 16)⟩,
    ⟨(some 87), 1392, none, .pick (.t 85) (.t 86) (.c (.bool false))⟩,
    ⟨(some 10), 160, none, .mv (.t 87)⟩])
  .ret)))))))))
theorem fits5 : fits Tryd.prog false Tryd.f5 5 88 [(10, none)] = some c5.er := by kernel_rfl
theorem fstN_spec {p : Nat → Prop} [DecidablePred p] : ∀ {k i : Nat}, (∀ j, i ≤ j → j < fstN p i k → ¬ p j) ∧ (fstN p i k < i + k → p (fstN p i k))
  | 0, i => ⟨fun j h1 h2 => by unfold fstN at h2; omega, fun h => by unfold fstN at h; omega⟩
  | k + 1, i => by
    obtain ⟨g1, g2⟩ := fstN_spec (p := p) (k := k) (i := i + 1)
    unfold fstN
    by_cases h : p i
    · rw [if_pos h]
      exact ⟨fun j h1 h2 => by omega, fun _ => h⟩
    · rw [if_neg h]
      refine ⟨fun j h1 h2 => ?_, fun h3 => g2 (by omega)⟩
      rcases Nat.lt_or_ge i j with h4 | h4
      · exact g1 j h4 h2
      · rw [show j = i by omega]; exact h
theorem place_mono {l : List Int} {x y : Int} (h : x ≤ y) : placeF l x ≤ placeF l y := by
  have h1 := fstN_spec (p := fun i => x < l.getD i default) (k := l.length) (i := 0)
  have h2 := fstN_spec (p := fun i => y < l.getD i default) (k := l.length) (i := 0)
  have h3 := fstN_le (fun i => x < l.getD i default) l.length 0
  have hle : fstN (fun i => x < l.getD i default) 0 l.length ≤ fstN (fun i => y < l.getD i default) 0 l.length := by
    rcases Nat.lt_or_ge (fstN (fun i => y < l.getD i default) 0 l.length) (fstN (fun i => x < l.getD i default) 0 l.length) with h4 | h4
    · have h5 := h2.2 (by omega)
      exact absurd (show x < _ by omega) (h1.1 _ (Nat.zero_le _) h4)
    · exact h4
  unfold placeF mx
  split <;> split <;> omega
theorem TabOK.steps {t : FT} (h : TabOK t) {i : Nat} (hi : i < t.rel.length) {k : Nat} (hk : k < t.inf.length) : (0 < k → (t.rel.getD i default).getD (k - 1) default ≤ (t.rel.getD i default).getD k default) ∧
    (0 < i → (t.rel.getD (i - 1) default).getD k default ≤ (t.rel.getD i default).getD k default) := by
  have h0 := h.row hi
  have h1 := h.e3 i hi
  unfold relE rowF at h1
  split at h1
  · cases h1
  · have h2 := scan_all h1 k (by omega)
    unfold rowE at h2
    split at h2
    · cases h2
    · split at h2
      · cases h2
      · rename_i h3
        refine ⟨fun hk0 => ?_, fun hi0 => ?_⟩
        · exact Int.not_lt.1 fun h4 => h3 (.inl ⟨hk0, h4⟩)
        · refine Int.not_lt.1 fun h4 => h3 (.inr ?_)
          obtain ⟨j, rfl⟩ : ∃ j, i = j + 1 := ⟨i - 1, by omega⟩
          exact decide_eq_true h4
theorem TabOK.along {t : FT} (h : TabOK t) {i : Nat} (hi : i < t.rel.length) {k : Nat} : ∀ m, k + m < t.inf.length → (t.rel.getD i default).getD k default ≤ (t.rel.getD i default).getD (k + m) default
  | 0, _ => Int.le_refl _
  | m + 1, hm => by
    have h1 := h.along hi (k := k) m (by omega)
    have h2 := (h.steps hi (k := k + (m + 1)) hm).1 (by omega)
    rw [show k + (m + 1) - 1 = k + m by omega] at h2
    omega
theorem TabOK.down {t : FT} (h : TabOK t) {i k : Nat} (hk : k < t.inf.length) : ∀ m, i + m < t.rel.length → (t.rel.getD i default).getD k default ≤ (t.rel.getD (i + m) default).getD k default
  | 0, _ => Int.le_refl _
  | m + 1, hm => by
    have h1 := h.down (i := i) hk m (by omega)
    have h2 := (h.steps (i := i + (m + 1)) hm hk).2 (by omega)
    rw [show i + (m + 1) - 1 = i + m by omega] at h2
    omega
theorem at_mono {t : FT} (h : TabOK t) {a a' b b' : Int} (h1 : a ≤ a') (h2 : b ≤ b') : atF t a b ≤ atF t a' b' := by
  have hl1 := h.l1
  have hl2 := h.l2
  have hl3 := h.l3
  have p1 := place_rng a (l := t.lv) (by omega)
  have p2 := place_rng b (l := t.inf) (by omega)
  have p3 := place_rng a' (l := t.lv) (by omega)
  have p4 := place_rng b' (l := t.inf) (by omega)
  have m1 := place_mono (l := t.lv) h1
  have m2 := place_mono (l := t.inf) h2
  have d1 := h.down (i := (placeF t.lv a).toNat) (k := (placeF t.inf b).toNat) p2.2 ((placeF t.lv a').toNat - (placeF t.lv a).toNat) (by omega)
  have d2 := h.along (i := (placeF t.lv a').toNat) (by omega) (k := (placeF t.inf b).toNat) ((placeF t.inf b').toNat - (placeF t.inf b).toNat) (by omega)
  rw [show (placeF t.lv a).toNat + ((placeF t.lv a').toNat - (placeF t.lv a).toNat) = (placeF t.lv a').toNat by omega] at d1
  rw [show (placeF t.inf b).toNat + ((placeF t.inf b').toNat - (placeF t.inf b).toNat) = (placeF t.inf b').toNat by omega] at d2
  unfold atF
  omega
def foundF (rel : List (List Int)) (x : Int) : Bool := rel.any fun l => l.any fun n => n == x
theorem at_found {t : FT} (h : TabOK t) (a b : Int) : foundF t.rel (atF t a b) = true := by
  have hl1 := h.l1
  have hl2 := h.l2
  have hl3 := h.l3
  have p1 := place_rng a (l := t.lv) (by omega)
  have p2 := place_rng b (l := t.inf) (by omega)
  have hr := h.row (i := (placeF t.lv a).toNat) (by omega)
  refine List.any_eq_true.2 ⟨_, getD_mem (i := (placeF t.lv a).toNat) (by omega), List.any_eq_true.2 ⟨_, getD_mem (i := (placeF t.inf b).toNat) (by omega), ?_⟩⟩
  exact beq_self_eq_true _
theorem any_take {α : Type} [Inhabited α] {l : List α} {p : α → Bool} {i : Nat} (h : i < l.length) : (l.take (i + 1)).any p = ((l.take i).any p || p (l.getD i default)) := by
  rw [List.take_succ_eq_append_getElem h, List.any_append]
  simp [List.getD, h]
set_option maxRecDepth 100000 in
set_option maxHeartbeats 16000000 in
theorem call5 (l : List Int) (level inflow up more : Int) (h1 : 0 ≤ level ∧ level ≤ 65535) (h2 : 0 ≤ inflow ∧ inflow ≤ 65535) (h3 : 0 ≤ up ∧ up ≤ 65535) (h4 : 0 ≤ more ∧ more ≤ 65535) :
    PureCall Tryd.prog 5 [.sl 1 1 l.length (fl eInt l), .int .u16 level, .int .u16 inflow, .int .u16 up, .int .u16 more] [] ⟨.bool true, [], []⟩ := by
  refine pure_call mix Tryd.func5 fits5 rfl ?_
  conv => whnf
  refine ⟨_, fun _ => call8, ?_⟩
  conv => whnf
  refine ⟨?_, fun h => absurd h Bool.false_ne_true, fun _ => ?_⟩
  · exact g0
  conv => whnf
  refine ⟨_, fun _ => call9 1 l, ?_⟩
  conv => whnf
  refine ⟨?_, fun hc => ?_, fun hc => ?_⟩
  · exact g0
  · conv => whnf
    refine ⟨?_, [], ?_⟩
    · exact g0
    conv => whnf
    refine ⟨rfl, ?_, trivial, trivial⟩
    all_goals repeat' (first | exact True.intro | refine leF_cons rfl ?_ ?_ | refine leS_cons rfl ?_ ?_ | (show PLe _ _ _ _; conv => whnf) | (show SLe _ _ _ _; conv => whnf) | (show PLeL _ _ _ _; conv => whnf) | apply And.intro | rfl | exact Nat.le_refl _ | exact fun _ _ => rfl | exact rowEq0 _ _)
  conv => whnf
  refine ⟨_, fun _ => call_new 1 l, ?_⟩
  conv => whnf
  refine ⟨_, fun _ => call11 ⟨l, 0⟩ (by dsimp only; omega), ?_⟩
  have hok0 := tab_ok ⟨l, 0⟩
  generalize (tabF ⟨l, 0⟩).2 = D
  generalize (tabF ⟨l, 0⟩).1 = t at hok0 ⊢
  have hok := check_ok hok0
  have l1 := hok.l1
  have l2 := hok.l2
  have l3 := hok.l3
  have hrow := fun i hi => hok.row (i := i) hi
  have b4 : ∀ i, i < t.rel.length → (t.rel.getD i default).length ≤ 4611686018427387904 := fun i hi => by have := hrow i hi; omega
  conv => whnf
  refine ⟨_, fun _ => call19 0 0 t level inflow (by omega) (by omega) (by omega) b4, ?_⟩
  have hx : relF t level inflow = (atF t level inflow, 0) := by unfold relF; rw [if_neg (by omega), if_neg (by omega)]
  rw [hx]
  conv => whnf
  refine ⟨_, fun _ => call19 0 0 t (level + up) (inflow + more) (by omega) (by omega) (by omega) b4, ?_⟩
  have hy : relF t (level + up) (inflow + more) = (atF t (level + up) (inflow + more), 0) := by unfold relF; rw [if_neg (by omega), if_neg (by omega)]
  rw [hy]
  have hxy := at_mono hok (a := level) (a' := level + up) (b := inflow) (b' := inflow + more) (by omega) (by omega)
  have hf := at_found hok level inflow
  generalize atF t (level + up) (inflow + more) = y at hxy ⊢
  generalize atF t level inflow = x at hxy hf ⊢
  conv => whnf
  refine ⟨?_, ?_⟩
  · exact g0
  refine LSem.loop (n := 88) mix (α := Nat) (fun i => i ≤ t.rel.length)
    (fun i => [(12, .int .i64 x), (13, .int .i64 0), (14, .int .i64 y), (15, .int .i64 0), (16, .bool (foundF (t.rel.take i) x)), (54, .sl 0 1 t.rel.length (fl (eIs 0) t.rel)), (55, .int .i64 t.rel.length), (56, .int .i64 i)])
    (fun i => []) (fun i => t.rel.length - i) 0 ?_ ?_ ?_
  · exact Nat.zero_le _
  · refine ⟨rfl, rfl, ?_, ?_⟩
    all_goals repeat' (first | exact True.intro | refine leF_cons rfl ?_ ?_ | refine leS_cons rfl ?_ ?_ | (show PLe _ _ _ _; conv => whnf) | (show SLe _ _ _ _; conv => whnf) | (show PLeL _ _ _ _; conv => whnf) | apply And.intro | rfl | exact Nat.le_refl _ | exact fun _ _ => rfl | exact rowEq0 _ _)
  · intro i hi
    have hj : ((i : Int)).toNat = i := by omega
    conv => whnf
    refine ⟨trivial, fun hc2 => ?_, fun hc2 => ?_⟩
    · replace hc2 := of_decide_eq_true hc2
      have hlt : i < t.rel.length := by
        have h : (i : Int) < t.rel.length := hc2
        omega
      have hLl := hrow i hlt
      have hstep : foundF (t.rel.take (i + 1)) x = (foundF (t.rel.take i) x || (t.rel.getD i default).any fun n => n == x) := any_take hlt
      conv => whnf
      rw [hj]
      generalize t.rel.getD i default = L at hLl hstep ⊢
      refine ⟨?_, ?_⟩
      · exact g0
      refine LSem.loop (n := 88) mix (α := Nat) (fun k => k ≤ L.length)
        (fun k => [(12, .int .i64 x), (13, .int .i64 0), (14, .int .i64 y), (15, .int .i64 0), (16, .bool (foundF (t.rel.take i) x || (L.take k).any fun n => n == x)), (54, .sl 0 1 t.rel.length (fl (eIs 0) t.rel)), (55, .int .i64 t.rel.length), (56, .int .i64 i), (60, .sl 0 1 L.length (fl eInt L)), (61, .int .i64 L.length), (62, .int .i64 k)])
        (fun k => []) (fun k => L.length - k) 0 ?_ ?_ ?_
      · exact Nat.zero_le _
      · refine ⟨rfl, rfl, ?_, ?_⟩
        all_goals repeat' (first | exact True.intro | refine leF_cons rfl ?_ ?_ | refine leS_cons rfl ?_ ?_ | (show PLe _ _ _ _; conv => whnf) | (show SLe _ _ _ _; conv => whnf) | (show PLeL _ _ _ _; conv => whnf) | apply And.intro | rfl | exact Nat.le_refl _ | exact fun _ _ => rfl | exact rowEq0 _ _)
        all_goals first | (simp; done) | skip
      · intro k hk
        have hj2 : ((k : Int)).toNat = k := by omega
        conv => whnf
        refine ⟨trivial, fun hc3 => ?_, fun hc3 => ?_⟩
        · replace hc3 := of_decide_eq_true hc3
          have hlt2 : k < L.length := by
            have h : (k : Int) < L.length := hc3
            omega
          have hst2 : ((L.take (k + 1)).any fun n => n == x) = (((L.take k).any fun n => n == x) || (L.getD k default == x)) := any_take hlt2
          conv => whnf
          refine ⟨?_, k + 1, hlt2, ?_, rfl, rfl, ?_, ?_⟩
          · exact g0
          · omega
          all_goals repeat' (first | exact True.intro | refine leF_cons rfl ?_ ?_ | refine leS_cons rfl ?_ ?_ | (show PLe _ _ _ _; conv => whnf) | (show SLe _ _ _ _; conv => whnf) | (show PLeL _ _ _ _; conv => whnf) | apply And.intro | rfl | exact Nat.le_refl _ | exact fun _ _ => rfl | exact rowEq0 _ _)
          all_goals first | omega | (rw [hst2, hj2]; cases foundF (t.rel.take i) x <;> cases ((L.take k).any fun n => n == x) <;> rfl) | skip
        · replace hc3 := of_decide_eq_false hc3
          have hk2 : k = L.length := by
            have h : ¬ (k : Int) < L.length := hc3
            omega
          subst hk2
          conv => whnf
          refine ⟨?_, i + 1, hlt, ?_, rfl, rfl, ?_, ?_⟩
          · exact g0
          · omega
          all_goals repeat' (first | exact True.intro | refine leF_cons rfl ?_ ?_ | refine leS_cons rfl ?_ ?_ | (show PLe _ _ _ _; conv => whnf) | (show SLe _ _ _ _; conv => whnf) | (show PLeL _ _ _ _; conv => whnf) | apply And.intro | rfl | exact Nat.le_refl _ | exact fun _ _ => rfl | exact rowEq0 _ _)
          all_goals first | omega | (rw [hstep, List.take_length]; done) | skip
    · replace hc2 := of_decide_eq_false hc2
      have hk : i = t.rel.length := by
        have h : ¬ (i : Int) < t.rel.length := hc2
        omega
      subst hk
      rw [List.take_length, hf]
      conv => whnf
      refine ⟨?_, [], ?_⟩
      · exact g0
      conv => whnf
      refine ⟨rfl, ?_, trivial, trivial⟩
      all_goals repeat' (first | exact True.intro | refine leF_cons rfl ?_ ?_ | refine leS_cons rfl ?_ ?_ | (show PLe _ _ _ _; conv => whnf) | (show SLe _ _ _ _; conv => whnf) | (show PLeL _ _ _ _; conv => whnf) | apply And.intro | rfl | exact Nat.le_refl _ | exact fun _ _ => rfl | exact rowEq0 _ _)
      rw [decide_eq_true hxy]; rfl
end Pv
end Go.Proofs.YtcfcmafmdpbjoaaDoor
/- LAW 24, PLAIN: a table is read back from its text. -/
set_option linter.unusedSimpArgs false
set_option linter.unusedVariables false
namespace Go.Proofs.YtcfcmafmdpbjoaaDoor
namespace Pv
theorem splitC_clean {c : UInt8} : ∀ {a : List UInt8}, (∀ x ∈ a, x ≠ c) → splitC c a = [a]
  | [], _ => rfl
  | x :: xs, h => by
    have ih := splitC_clean (c := c) (a := xs) (fun y hy => h y (by simp [hy]))
    simp only [splitC, if_neg (h x (by simp)), ih]
theorem splitC_cut {c : UInt8} {r : List UInt8} : ∀ {a : List UInt8}, (∀ x ∈ a, x ≠ c) → splitC c (a ++ c :: r) = a :: splitC c r
  | [], _ => by simp [splitC]
  | x :: xs, h => by
    have ih := splitC_cut (c := c) (r := r) (a := xs) (fun y hy => h y (by simp [hy]))
    simp only [List.cons_append, splitC, if_neg (h x (by simp)), ih]
/-! ### numerals -/
theorem dig_nat {d : Nat} (h : d < 10) : (UInt8.ofNat (48 + d)).toNat = 48 + d := by
  rw [UInt8.toNat_ofNat']; omega
theorem decDigits_small {u : Nat} (h : u < 10) : Lib.decDigits u = [UInt8.ofNat (48 + u)] := by rw [Lib.decDigits, dif_pos h]
theorem decDigits_big {u : Nat} (h : ¬ u < 10) : Lib.decDigits u = Lib.decDigits (u / 10) ++ [UInt8.ofNat (48 + u % 10)] := by rw [Lib.decDigits, dif_neg h]
theorem decDigits_dig (u : Nat) : ∀ x ∈ Lib.decDigits u, 48 ≤ x.toNat ∧ x.toNat ≤ 57 := by
  induction u using Nat.strongRecOn with
  | ind u ih =>
    intro x hx
    by_cases h : u < 10
    · rw [decDigits_small h, List.mem_singleton] at hx
      rw [hx, dig_nat h]; omega
    · rw [decDigits_big h, List.mem_append, List.mem_singleton] at hx
      rcases hx with hx | hx
      · exact ih (u / 10) (by omega) x hx
      · rw [hx, dig_nat (by omega)]; omega
theorem digs_snoc : ∀ {s : List UInt8} {a : Int} {d : Nat}, d < 10 → digs a (s ++ [UInt8.ofNat (48 + d)]) = (digs a s).map fun b => 10 * b + (d : Int)
  | [], a, d, h => by
    simp only [List.nil_append, digs, dig_nat h, Option.map_some]
    rw [if_neg (by omega)]
    congr 1
    omega
  | c :: cs, a, d, h => by
    simp only [List.cons_append, digs]
    split
    · rfl
    · exact digs_snoc h
theorem digs_dec (u : Nat) : digs 0 (Lib.decDigits u) = some (u : Int) := by
  induction u using Nat.strongRecOn with
  | ind u ih =>
    by_cases h : u < 10
    · rw [decDigits_small h]
      have := digs_snoc (s := []) (a := 0) h
      rw [List.nil_append] at this
      rw [this]
      simp [digs]
    · rw [decDigits_big h, digs_snoc (by omega), ih (u / 10) (by omega)]
      simp only [Option.map_some]
      congr 1
      omega
theorem decDigits_len {k : Nat} : ∀ {u : Nat}, 1 ≤ k → u < 10 ^ k → (Lib.decDigits u).length ≤ k := by
  induction k with
  | zero => intro u h; omega
  | succ k ih =>
    intro u _ hu
    by_cases h : u < 10
    · rw [decDigits_small h]; simp
    · rw [decDigits_big h, List.length_append]
      have hk : 1 ≤ k := by
        rcases k with _ | k
        · simp at hu; omega
        · omega
      have h2 : u / 10 < 10 ^ k := by
        rw [Nat.div_lt_iff_lt_mul (by decide), ← Nat.pow_succ]; exact hu
      have := ih hk h2
      simp only [List.length_cons, List.length_nil]; omega
theorem decDigits_ne (u : Nat) : 1 ≤ (Lib.decDigits u).length := by
  by_cases h : u < 10
  · rw [decDigits_small h]; simp
  · rw [decDigits_big h]; simp
theorem decDigits_head (u : Nat) (h1 : 1 ≤ u) : ((Lib.decDigits u).getD 0 0).toNat ≠ 48 := by
  induction u using Nat.strongRecOn with
  | ind u ih =>
    by_cases h : u < 10
    · rw [decDigits_small h]
      show (UInt8.ofNat (48 + u)).toNat ≠ 48
      rw [dig_nat h]; omega
    · have h2 := ih (u / 10) (by omega) (by omega)
      have h3 := decDigits_ne (u / 10)
      rw [decDigits_big h, List.getD_eq_getElem?_getD, List.getElem?_append_left (by omega), ← List.getD_eq_getElem?_getD]
      exact h2
theorem number_itoa {n : Int} (h0 : 0 ≤ n) (h1 : n ≤ 1073741824) : numberF (Lib.itoa n) = some n := by
  have he : Lib.itoa n = Lib.decDigits n.toNat := by unfold Lib.itoa; rw [if_neg (by omega)]
  have hl := decDigits_len (k := 13) (u := n.toNat) (by decide) (by
    have : n.toNat ≤ 1073741824 := by omega
    exact Nat.lt_of_le_of_lt this (by decide))
  have hn := decDigits_ne n.toNat
  rw [he]
  unfold numberF
  rw [if_neg, digs_dec]
  · congr 1; omega
  · rintro (h | h | ⟨h2, h3⟩)
    · omega
    · omega
    · by_cases hu : n.toNat < 10
      · rw [decDigits_small hu] at h2; simp at h2
      · exact decDigits_head n.toNat (by omega) h3
theorem itoa_clean {n : Int} (h0 : 0 ≤ n) : ∀ x ∈ Lib.itoa n, x ≠ 32 ∧ x ≠ 10 := fun x hx => by
  have he : Lib.itoa n = Lib.decDigits n.toNat := by unfold Lib.itoa; rw [if_neg (by omega)]
  rw [he] at hx
  have := decDigits_dig _ x hx
  refine ⟨fun e => ?_, fun e => ?_⟩ <;> (subst e; revert this; decide)
/-! ### lines -/
theorem split_nums : ∀ {l : List Int} {a : List UInt8}, (∀ x ∈ a, x ≠ 32) → (∀ n ∈ l, 0 ≤ n) → splitC 32 (a ++ numsT l) = a :: l.map Lib.itoa
  | [], a, ha, _ => by
    have : a ++ numsT [] = a := by simp [numsT]
    rw [this, splitC_clean ha]; rfl
  | n :: l, a, ha, hl => by
    have e : a ++ numsT (n :: l) = a ++ 32 :: (Lib.itoa n ++ numsT l) := by simp [numsT]
    rw [e, splitC_cut ha, split_nums (fun x hx => (itoa_clean (hl n (by simp)) x hx).1) (fun m hm => hl m (by simp [hm]))]
    rfl
theorem map_itoa : ∀ {l : List Int}, (∀ n ∈ l, 0 ≤ n ∧ n ≤ 1073741824) → mapNum (l.map Lib.itoa) = some l
  | [], _ => rfl
  | n :: l, h => by
    have h1 := h n (by simp)
    have ih := map_itoa (l := l) (fun m hm => h m (by simp [hm]))
    simp only [List.map_cons, mapNum, number_itoa h1.1 h1.2, ih, Option.map_some]
def Rng (l : List Int) : Prop := ∀ n ∈ l, 0 ≤ n ∧ n ≤ 1073741824
theorem numbers_line {w : List UInt8} {l : List Int} (hw : ∀ x ∈ w, x ≠ 32) (hl : Rng l) : numbersF (w ++ numsT l) w = some l := by
  unfold numbersF
  rw [split_nums hw (fun n hn => (hl n hn).1)]
  rw [if_neg (fun h => h rfl)]
  exact map_itoa hl
theorem line_clean {w : List UInt8} {l : List Int} (hw : ∀ x ∈ w, x ≠ 10) (hl : Rng l) : ∀ x ∈ w ++ numsT l, x ≠ 10 := fun x hx => by
  rcases List.mem_append.1 hx with h | h
  · exact hw x h
  · unfold numsT at h
    obtain ⟨n, hn, h2⟩ := List.mem_flatMap.1 h
    rcases List.mem_cons.1 h2 with rfl | h3
    · decide
    · exact (itoa_clean (hl n hn).1 x h3).2
theorem wInflow_clean : ∀ x ∈ wInflow, x ≠ 32 ∧ x ≠ 10 := by decide
theorem wLevel_clean : ∀ x ∈ wLevel, x ≠ 32 ∧ x ≠ 10 := by decide
def levR (t : FT) : Nat → Nat → List UInt8
  | _, 0 => []
  | i, m + 1 => lineF wLevel (t.lv.getD i default :: t.rel.getD i default) ++ levR t (i + 1) m
theorem levT_R (t : FT) : ∀ (m k : Nat), levT t k ++ levR t k m = levT t (k + m)
  | 0, k => by simp [levR]
  | m + 1, k => by
    have := levT_R t m (k + 1)
    rw [show k + (m + 1) = k + 1 + m by omega, ← this]
    simp only [levT, levR, List.append_assoc]
theorem TabOK.rngI {t : FT} (h : TabOK t) : Rng t.inf := fun n hn => by
  obtain ⟨i, hi, rfl⟩ := List.getElem_of_mem hn
  have := h.infr hi
  rw [show t.inf.getD i default = t.inf[i] by simp [List.getD, hi]] at this
  exact this
theorem TabOK.rngR {t : FT} (h : TabOK t) {i : Nat} (hi : i < t.lv.length) : Rng (t.lv.getD i default :: t.rel.getD i default) := fun n hn => by
  have hl := h.l3
  rcases List.mem_cons.1 hn with rfl | hn
  · have := h.lvr hi; omega
  · obtain ⟨k, hk, rfl⟩ := List.getElem_of_mem hn
    have := h.cell (i := i) (by omega) hk
    generalize t.rel.getD i default = L at hk this
    rw [List.getD_eq_getElem?_getD, List.getElem?_eq_getElem hk] at this
    exact this
theorem take_push {α : Type} [Inhabited α] {l : List α} {i : Nat} (h : i < l.length) : l.take i ++ [l.getD i default] = l.take (i + 1) := by
  rw [List.take_succ_eq_append_getElem h]
  simp [List.getD, h]
theorem parse_lev {t : FT} (h : TabOK t) : ∀ (m i n : Nat), 2 ≤ n → i + m = t.lv.length → pLines n (splitC 10 (levR t i m)) ⟨t.lv.take i, t.inf, t.rel.take i⟩ = (t, 0, checkF t)
  | 0, i, n, hn, hi => by
    have e1 : t.lv.take i = t.lv := List.take_of_length_le (by omega)
    have e2 : t.rel.take i = t.rel := List.take_of_length_le (by have := h.l3; omega)
    rw [e1, e2]
    show (if n = 1 ∨ ([] : List UInt8) ≠ [] then _ else _) = _
    rw [if_neg (by rintro (h | h); · omega
                   · exact h rfl)]
  | m + 1, i, n, hn, hi => by
    have hr := h.rngR (i := i) (by omega)
    have hl3 := h.l3
    have e : levR t i (m + 1) = (wLevel ++ numsT (t.lv.getD i default :: t.rel.getD i default)) ++ 10 :: levR t (i + 1) m := by simp [levR, lineF]
    rw [e, splitC_cut (line_clean (fun x hx => (wLevel_clean x hx).2) hr), pLines_cons (splitC_ne 10 _), if_neg (by omega), numbers_line (fun x hx => (wLevel_clean x hx).1) hr]
    dsimp only
    rw [take_push (by omega), take_push (by omega)]
    exact parse_lev h m (i + 1) (n + 1) (by omega) (by omega)
theorem parse_body {t : FT} (h : checkF t = 0) : parseF (bodyT t) = (t, 0, 0) := by
  have hok := check_ok h
  have e0 : levT t t.lv.length = levR t 0 t.lv.length := by
    have := levT_R t t.lv.length 0
    simp only [levT, List.nil_append, Nat.zero_add] at this
    exact this.symm
  have e : bodyT t = (wInflow ++ numsT t.inf) ++ 10 :: levR t 0 t.lv.length := by
    unfold bodyT
    rw [e0]
    simp [lineF]
  unfold parseF
  rw [e, splitC_cut (line_clean (fun x hx => (wInflow_clean x hx).2) hok.rngI), pLines_cons (splitC_ne 10 _), if_pos rfl, numbers_line (fun x hx => (wInflow_clean x hx).1) hok.rngI]
  dsimp only
  have := parse_lev hok t.lv.length 0 2 (Nat.le_refl _) (by omega)
  rw [List.take_zero, List.take_zero, h] at this
  exact this
theorem same_iff {a b : FT} : sameF a b = true ↔ a = b := by
  obtain ⟨x, y, z⟩ := a
  obtain ⟨x', y', z'⟩ := b
  unfold sameF
  simp only [Bool.and_eq_true, beq_iff_eq, FT.mk.injEq]
theorem body_same {a b : FT} (ha : checkF a = 0) (hb : checkF b = 0) : (bodyT a == bodyT b) = sameF a b := by
  cases hs : sameF a b with
  | true => rw [same_iff.1 hs]; exact beq_self_eq_true _
  | false =>
    refine beq_eq_false_iff_ne.2 fun e => ?_
    have h1 := parse_body ha
    rw [e, parse_body hb] at h1
    have : b = a := (Prod.mk.inj h1).1
    rw [same_iff.2 this.symm] at hs
    cases hs
end Pv
end Go.Proofs.YtcfcmafmdpbjoaaDoor
/- LAW 24: tables are read back from their texts (FloodtableBack). -/
set_option linter.unusedSimpArgs false
set_option linter.unusedVariables false
namespace Go.Proofs.YtcfcmafmdpbjoaaDoor
namespace Pv
def c4 : C := (.seq (.reg [⟨(some 4), 64, none, .mv (.c (.bool false))⟩])
  (.seq (.seq (.reg [⟨(some 14), 224, none, .call (.c (.fn (.func 8) [] [])) []⟩,
    ⟨(some 15), 240, none, .un false .not (.t 14)⟩])
  (.cond (.t 15) (.seq (.reg [⟨(some 4), 64, none, .mv (.c (.bool false))⟩])
  .ret) .skip))
  (.seq (.seq (.reg [⟨(some 16), 256, none, .mv (.t 0)⟩,
    ⟨(some 17), 272, none, .call (.c (.fn (.func 9) [] [])) [(.t 16)]⟩,
    ⟨(some 18), 288, none, .un false .not (.t 17)⟩,
    ⟨(some 19), 304, none, .mv (.t 18)⟩,
    ⟨(some 20), 320, (some (19, false)), .mv (.t 1)⟩,
    ⟨(some 21), 336, (some (19, false)), .call (.c (.fn (.func 9) [] [])) [(.t 20)]⟩,
    ⟨(some 22), 352, (some (19, false)), .un false .not (.t 21)⟩,
    ⟨(some 23), 368, none, .pick (.t 19) (.c (.bool true)) (.t 22)⟩])
  (.cond (.t 23) (.seq (.reg [⟨(some 4), 64, none, .mv (.c (.bool true))⟩])
  .ret) .skip))
  (.seq (.reg [⟨(some 24), 384, none, .mv (.t 0)⟩,
    ⟨(some 25), 400, none, .call (.c (.fn (.func 12) [] [])) [(.t 24)]⟩,
    ⟨(some 26), 416, none, .call (.c (.fn (.func 11) [] [])) [(.t 25)]⟩,
    ⟨(some 27), 432, none, .mv (.t 1)⟩,
    ⟨(some 28), 448, none, .call (.c (.fn (.func 12) [] [])) [(.t 27)]⟩,
    ⟨(some 29), 464, none, .call (.c (.fn (.func 11) [] [])) [(.t 28)]⟩,
    ⟨(some 5), 80, none, .al [(.nil 1), (.nil 1), (.nil 1)]⟩,
    ⟨(some 6), 96, none, .al [(.nil 1), (.nil 1), (.nil 1)]⟩,
    ⟨none, 0, none, .st 3 (.t 5) (.t 26)⟩,
    ⟨none, 0, none, .st 3 (.t 6) (.t 29)⟩])
  (.seq (.reg [⟨(some 31), 496, none, .ld 3 true (.t 5)⟩,
    ⟨(some 32), 512, none, .call (.c (.fn (.func 17) [] [])) [(.t 31)]⟩,
    ⟨(some 30), 480, none, .mv (.t 32)⟩,
    ⟨(some 33), 528, none, .ex (.t 30) 0⟩,
    ⟨(some 34), 544, none, .ex (.t 30) 1⟩,
    ⟨(some 7), 112, none, .mv (.t 33)⟩,
    ⟨(some 8), 128, none, .mv (.t 34)⟩])
  (.seq (.reg [⟨(some 36), 576, none, .ld 3 true (.t 6)⟩,
    ⟨(some 37), 592, none, .call (.c (.fn (.func 17) [] [])) [(.t 36)]⟩,
    ⟨(some 35), 560, none, .mv (.t 37)⟩,
    ⟨(some 38), 608, none, .ex (.t 35) 0⟩,
    ⟨(some 39), 624, none, .ex (.t 35) 1⟩,
    ⟨(some 9), 144, none, .mv (.t 38)⟩,
    ⟨(some 10), 160, none, .mv (.t 39)⟩])
  (.seq (.reg [⟨(some 41), 656, none, .mv (.t 7)⟩,
    ⟨(some 42), 672, none, .call (.c (.fn (.func 14) [] [])) [(.t 41)]⟩,
    ⟨(some 40), 640, none, .mv (.t 42)⟩,
    ⟨(some 43), 688, none, .ex (.t 40) 0⟩,
    ⟨(some 44), 704, none, .ex (.t 40) 1⟩,
    ⟨(some 45), 720, none, .ex (.t 40) 2⟩,
    ⟨(some 11), 176, none, .al [(.nil 1), (.nil 1), (.nil 1)]⟩,
    ⟨none, 0, none, .st 3 (.t 11) (.t 43)⟩,
    ⟨(some 12), 192, none, .mv (.t 44)⟩,
    ⟨(some 13), 208, none, .mv (.t 45)⟩])
  (.seq (.reg [⟨(some 46), 736, none, .mv (.t 8)⟩,
    ⟨(some 47), 752, none, .bi false .eql (.t 46) (.c (.int .i64 0))⟩,
    ⟨(some 48), 768, none, .mv (.t 47)⟩,
    ⟨(some 49), 784, (some (48, true)), .mv (.t 10)⟩,
    ⟨(some 50), 800, (some (48, true)), .bi false .eql (.t 49) (.c (.int .i64 0))⟩,
    ⟨(some 51), 816, none, .pick (.t 48) (.t 50) (.c (.bool false))⟩,
    ⟨(some 52), 832, none, .mv (.t 51)⟩,
    ⟨(some 53), 848, (some (52, true)), .mv (.t 13)⟩,
    ⟨(some 54), 864, (some (52, true)), .bi false .eql (.t 53) (.c (.int .i64 0))⟩,
    ⟨(some 55), 880, none, .pick (.t 52) (.t 54) (.c (.bool false))⟩,
    ⟨(some 56), 896, none, .mv (.t 55)⟩,
    ⟨(some 57), 912, (some (56, true)), .mv (.t 12)⟩,
    ⟨(some 58), 928, (some (56, true)), .bi false .eql (.t 57) (.c (.int .i64 0))⟩,
    ⟨(some 59), 944, none, .pick (.t 56) (.t 58) (.c (.bool false))⟩,
    ⟨(some 60), 960, none, .mv (.t 59)⟩,
    ⟨(some 61), 976, (some (60, true)), .ld 3 true (.t 11)⟩,
    ⟨(some 62), 992, (some (60, true)), .ld 3 true (.t 5)⟩,
    ⟨(some 63), 1008, (some (60, true)), .call (.c (.fn (.func 18) [] [])) [(.t 61), (.t 62)]⟩,
    ⟨(some 64), 1024, none, .pick (.t 60) (.t 63) (.c (.bool false))⟩,
    ⟨(some 65), 1040, none, .mv (.t 64)⟩,
    ⟨(some 66), 1056, (some (65, true)), .mv (.t 7)⟩,
    ⟨(some 67), 1072, (some (65, true)), .mv (.t 9)⟩,
    ⟨(some 68), 1088, (some (65, true)), .bi false .eql (.t 66) (.t 67)⟩,
    ⟨(some 69), 1104, (some (65, true)), .ld 3 true (.t 5)⟩,
    ⟨(some 70), 1120, (some (65, true)), .ld 3 true (.t 6)⟩,
    ⟨(some 71), 1136, (some (65, true)), .call (.c (.fn (.func 18) [] [])) [(.t 69), (.t 70)]⟩,
    ⟨(some 72), 1152, (some (65, true)), .bib false (.t 68) (.t 71)⟩,
    ⟨(some 73), 1168, none, .pick (.t 65) (.t 72) (.c (.bool false))⟩,
    ⟨(some 4), 64, none, .mv (.t 73)⟩])
  .ret))))))))
theorem fits4 : fits Tryd.prog false Tryd.f4 2 74 [(4, none)] = some c4.er := by kernel_rfl
theorem body_len {t : FT} (h : TabOK t) : (bodyT t).length ≤ 30000 := by
  have h1 := lineF_len (w := wInflow) h.iinf
  have h2 := levT_len h t.lv.length (Nat.le_refl _)
  have h3 := h.l1
  have h4 := h.l2
  have hw : wInflow.length = 6 := rfl
  unfold bodyT
  rw [List.length_append]
  omega
theorem format_ok {t : FT} (h : checkF t = 0) : formatF t = (bodyT t, 0) := by unfold formatF; rw [if_neg (by omega)]
set_option maxRecDepth 100000 in
set_option maxHeartbeats 16000000 in
theorem call4 (l m : List Int) : PureCall Tryd.prog 4 [.sl 1 1 l.length (fl eInt l), .sl 1 1 m.length (fl eInt m)] [] ⟨.bool true, [], []⟩ := by
  refine pure_call mix Tryd.func4 fits4 rfl ?_
  conv => whnf
  refine ⟨_, fun _ => call8, ?_⟩
  conv => whnf
  refine ⟨?_, fun h => absurd h Bool.false_ne_true, fun _ => ?_⟩
  · exact g0
  conv => whnf
  refine ⟨_, fun _ => call9 1 l, ?_⟩
  conv => whnf
  refine ⟨_, fun _ => call9 1 m, ?_⟩
  conv => whnf
  refine ⟨?_, fun hc => ?_, fun hc => ?_⟩
  · exact g0
  · conv => whnf
    refine ⟨?_, [], ?_⟩
    · exact g0
    conv => whnf
    refine ⟨rfl, ?_, trivial, trivial⟩
    all_goals repeat' (first | exact True.intro | refine leF_cons rfl ?_ ?_ | refine leS_cons rfl ?_ ?_ | (show PLe _ _ _ _; conv => whnf) | (show SLe _ _ _ _; conv => whnf) | (show PLeL _ _ _ _; conv => whnf) | apply And.intro | rfl | exact Nat.le_refl _ | exact fun _ _ => rfl | exact rowEq0 _ _)
  conv => whnf
  refine ⟨_, fun _ => call_new 1 l, ?_⟩
  conv => whnf
  refine ⟨_, fun _ => call11 ⟨l, 0⟩ (by dsimp only; omega), ?_⟩
  have ha0 := tab_ok ⟨l, 0⟩
  generalize (tabF ⟨l, 0⟩).2 = D
  generalize (tabF ⟨l, 0⟩).1 = a at ha0 ⊢
  conv => whnf
  refine ⟨_, fun _ => call_new 1 m, ?_⟩
  conv => whnf
  refine ⟨_, fun _ => call11 ⟨m, 0⟩ (by dsimp only; omega), ?_⟩
  have hb0 := tab_ok ⟨m, 0⟩
  generalize (tabF ⟨m, 0⟩).2 = D2
  generalize (tabF ⟨m, 0⟩).1 = b at hb0 ⊢
  have ha := check_ok ha0
  have hb := check_ok hb0
  have a1 := ha.l1
  have a2 := ha.l2
  have a3 := ha.l3
  have a4 : ∀ i, i < a.rel.length → (a.rel.getD i default).length ≤ 4611686018427387904 := fun i hi => by have := ha.row hi; omega
  have b1 := hb.l1
  have b2 := hb.l2
  have b3 := hb.l3
  have b4 : ∀ i, i < b.rel.length → (b.rel.getD i default).length ≤ 4611686018427387904 := fun i hi => by have := hb.row hi; omega
  conv => whnf
  refine ⟨_, fun _ => PureCall.arg_le (call17 0 a (by omega) (by omega) (by omega) a4) rfl (by
    all_goals repeat' (first | exact True.intro | refine leF_cons rfl ?_ ?_ | refine leS_cons rfl ?_ ?_ | (show PLe _ _ _ _; conv => whnf) | (show SLe _ _ _ _; conv => whnf) | (show PLeL _ _ _ _; conv => whnf) | apply And.intro | rfl | exact Nat.le_refl _ | exact fun _ _ => rfl | exact rowEq0 _ _)
    all_goals first | omega | exact (by decide) | skip), ?_⟩
  rw [format_ok ha0]
  conv => whnf
  refine ⟨_, fun _ => PureCall.arg_le (call17 0 b (by omega) (by omega) (by omega) b4) rfl (by
    all_goals repeat' (first | exact True.intro | refine leF_cons rfl ?_ ?_ | refine leS_cons rfl ?_ ?_ | (show PLe _ _ _ _; conv => whnf) | (show SLe _ _ _ _; conv => whnf) | (show PLeL _ _ _ _; conv => whnf) | apply And.intro | rfl | exact Nat.le_refl _ | exact fun _ _ => rfl | exact rowEq0 _ _)
    all_goals first | omega | exact (by decide) | skip), ?_⟩
  rw [format_ok hb0]
  have hbs := body_same ha0 hb0
  have hpa := parse_body ha0
  have hla := body_len ha
  generalize bodyT b = sb at hbs ⊢
  generalize bodyT a = sa at hbs hpa hla ⊢
  conv => whnf
  refine ⟨_, fun _ => call14 sa (by omega), ?_⟩
  rw [hpa]
  conv => whnf
  refine ⟨_, fun _ => call18 0 0 0 0 a a (by omega) (by omega) (by omega) a4, ?_⟩
  rw [same_iff.2 rfl]
  conv => whnf
  refine ⟨_, fun _ => call18 0 0 0 0 a b (by omega) (by omega) (by omega) a4, ?_⟩
  rw [← hbs]
  generalize (sa == sb) = q
  conv => whnf
  refine ⟨?_, [], ?_⟩
  · exact g0
  conv => whnf
  refine ⟨rfl, ?_, trivial, trivial⟩
  all_goals repeat' (first | exact True.intro | refine leF_cons rfl ?_ ?_ | refine leS_cons rfl ?_ ?_ | (show PLe _ _ _ _; conv => whnf) | (show SLe _ _ _ _; conv => whnf) | (show PLeL _ _ _ _; conv => whnf) | apply And.intro | rfl | exact Nat.le_refl _ | exact fun _ _ => rfl | exact rowEq0 _ _)
  cases q <;> rfl
end Pv
end Go.Proofs.YtcfcmafmdpbjoaaDoor
/- LAW 24: the library's slices.Grow at a nil slice of numbers, as a pure call. -/
set_option linter.unusedSimpArgs false
set_option linter.unusedVariables false
namespace Go.Proofs.YtcfcmafmdpbjoaaDoor
namespace Sh
open Go.Shelf
def grow_ren : Go.Shelf.Ren := ⟨fun | 4 => 66 | n => n, fun | 25 => 3 | n => n, fun n => n⟩
theorem growL : Go.Proofs.Lays8.n4 Tryd.prog grow_ren := {
  mixed := by kernel_rfl
  f4 := ⟨ "slices.Grow[[]int,int]", by decide, Tryd.func66.trans (congrArg some (by kernel_rfl))⟩
  t0 := Tryd.underlying0
  a0 := Tryd.isAgg0
  z0 := Tryd.sizeOf0
  v0 := Tryd.zeroValue0
  t3 := Tryd.underlying3
  a3 := Tryd.isAgg3
  z3 := Tryd.sizeOf3
  v3 := Tryd.zeroValue3
  t4 := Tryd.underlying4
  a4 := Tryd.isAgg4
  z4 := Tryd.sizeOf4
  v4 := Tryd.zeroValue4
  t9 := Tryd.underlying9
  a9 := Tryd.isAgg9
  z9 := Tryd.sizeOf9
  v9 := Tryd.zeroValue9
  t20 := Tryd.underlying20
  a20 := Tryd.isAgg20
  z20 := Tryd.sizeOf20
  v20 := Tryd.zeroValue20
  t22 := Tryd.underlying22
  a22 := Tryd.isAgg22
  z22 := Tryd.sizeOf22
  v22 := Tryd.zeroValue22 }
end Sh
namespace Pv
open Go.RowKit
theorem args_nilint (n : Int) (X : Cx) (γ : Gh) (w : World) (vals : List Value) (h : RepL X γ w [.nil 1, .int .i64 n] vals) : vals = [.slice none 0 0, .int .i64 n] := by
  obtain ⟨v, us, rfl, hv, hus⟩ := h.cons_inv
  obtain ⟨u, us, rfl, hu, hus⟩ := hus.cons_inv
  rw [hv.nil_inv, hu.int_inv, hus.nil_inv]
theorem call66 (n : Nat) (hn : n * 8 ≤ 140737488355328) : PureCall Tryd.prog 66 [.nil 1, .int .i64 n] [] ⟨.os 1000000000, [], [.row 0 3 1 0 (fun _ => [])]⟩ := by
  refine pure_new2 (vs := []) ⟨_, Tryd.func66, rfl, rfl⟩ (args_nilint n) (fun X γ w => ⟨rfl, fun u hu => (by cases hu), fun i hi => absurd hi (Nat.not_lt_zero _), fun i hi => absurd hi (Nat.not_lt_zero _), fun i j c u hi => absurd hi (Nat.not_lt_zero _)⟩) fun w hg => ?_
  by_cases h0 : n = 0
  · subst h0
    refine (Any8.slices_Grow_room Sh.growL none 0 0 0 w (Nat.le_refl _) (by decide) (by decide) (Nat.le_refl _)).mono ?_
    rintro ev w' ⟨he, rfl⟩
    exact ⟨_, he, ⟨rfl, .inl ⟨rfl, rfl⟩⟩, Keeps.refl _ _⟩
  · obtain ⟨i0, hi0, hz0, hs0, hb0⟩ : ∃ i0, Tryd.prog.info? 3 = some i0 ∧ i0.zero = some (.int .i64 0) ∧ i0.size = 1 ∧ i0.bytes = 8 := by
      have h : (Tryd.prog.info? 3).map (fun i => (i.zero, i.size, i.bytes)) = some (some (.int .i64 0), 1, 8) := by kernel_rfl
      obtain ⟨i0, h1, h2⟩ := Option.map_eq_some_iff.1 h
      simp only [Prod.mk.injEq] at h2
      exact ⟨i0, h1, h2.1, h2.2.1, h2.2.2⟩
    refine (Any8.slices_Grow_grow Sh.growL i0 (.int .i64 0) hi0 hz0 (by omega) none 0 0 n [] w (Nat.le_refl _) (by omega) (by rw [hb0]; omega) (by omega) (by simp) (fun _ => rfl) (fun a ha => by cases ha)).mono ?_
    rintro ev w' ⟨he, hw⟩
    have e3 : Sh.grow_ren.t 25 = 3 := rfl
    rw [e3] at he hw
    have g1 := grownCap_ge w (0 + n) 0 3
    have g2 := grownCap_le_maxLen w (0 + n) 0 3 (by unfold maxLen; omega)
    generalize grownCap w (0 + n) 0 3 = c at he hw g1 g2
    have hsz : ((#[] : Array Value) ++ Builtin.zeroCells (Value.int IntKind.i64 0).cells (0 + n - 0) ++ Builtin.zeroCells (Value.int IntKind.i64 0).cells (c - (0 + n))).size = c * 1 := by
      rw [Array.size_append, Array.size_append, size_zeroCells, size_zeroCells]
      show 0 + (0 + n - 0) * 1 + (c - (0 + n)) * 1 = c * 1
      omega
    generalize (#[] : Array Value) ++ Builtin.zeroCells (Value.int IntKind.i64 0).cells (0 + n - 0) ++ Builtin.zeroCells (Value.int IntKind.i64 0).cells (c - (0 + n)) = cur at hw hsz
    have hnew : w'.heap[w.heap.size]? = some (.cells cur 3 (0, 0)) := by
      rw [hw]
      show (w.heap.push _)[w.heap.size]? = _
      simp
    refine ⟨_, he, ⟨rfl, .inr ⟨w.heap.size, c, cur, rfl, Nat.le_refl _, hnew, Nat.zero_le _, g2, hsz, by simp⟩⟩, ?_⟩
    rw [hw]
    exact (Keeps.drew _ w).trans (Keeps.alloc _ _ _)
end Pv
end Go.Proofs.YtcfcmafmdpbjoaaDoor
set_option linter.unusedSimpArgs false
set_option linter.unusedVariables false
namespace Go.Proofs.YtcfcmafmdpbjoaaDoor
namespace Pv
open Go.Sort Go.RowKit
theorem compact_inplace (l : List Int) (hb : l.length ≤ 9223372036854775807) : InPlace Tryd.prog 57 l (Lib.compact l) true := by
  refine ⟨⟨_, Tryd.func57, rfl, rfl⟩, fun w g cap T h => ?_⟩
  obtain ⟨h1, h2⟩ := ints_holds h
  have hcap : l.length ≤ cap := by obtain ⟨_, _, _, _, h, _⟩ := h; exact h
  refine (Sh.slices_Compact_int g 0 cap l w h1 hb hcap).mono ?_
  rintro e w' ⟨he, n, rfl⟩
  have hle : (Lib.compact l).length ≤ l.length := by
    unfold Lib.compact Lib.compactUpTo
    rw [List.length_map]
    exact Nat.le_trans (List.length_filter_le ..) (by simp)
  obtain ⟨k1, k2⟩ := ints_put (n := n) (os := #[]) (d := Lib.compact l ++ List.replicate (l.length - (Lib.compact l).length) 0) (l' := Lib.compact l) h (by simp; omega) (by simp)
  rw [grow_empty] at k1 k2
  exact ⟨by rw [he]; rfl, k1, k2⟩
end Pv
end Go.Proofs.YtcfcmafmdpbjoaaDoor
