/- LAW 42, THE WALKS: how many violations there are of each rank. -/
import Derived.Test.YtafnkpmoolbjjaaDoorZef
import Derived.Shelf.Strings.BuilderK
import Derived.Shelf.Strings.Split
import Derived.Shelf.Strings.Cut
import Derived.Test.YtafnkpmoolbjjaaDoorRows
import Derived.Shelf.Strconv.Itoa3
import Derived.Lib.ItoaLen
/- THE LIBRARY's strings.Builder: what its functions leave of the builder, and that nothing else changes. -/
set_option linter.unusedSimpArgs false
set_option linter.unusedVariables false
namespace Go.Proofs.YtafnkpmoolbjjaaDoor
namespace Pv
open Go.Shelf Go.RowKit
variable {P : Program} {ρ : Ren}
structure Held (T e : TypeId) (b : Nat) (p v : Value) (s : List UInt8) (w : World) : Prop where
  cells : w.heap[b]? = some (.cells #[p, v] T (0, 0))
  own : w.ownsRowF 0 e 1 v s.length (bytesV s)
  ne : v.ownBlock ≠ some b
def self (b : Nat) : Value := .pointer (some ⟨b, 0, none⟩)
theorem bytesV_length (s : List UInt8) : (bytesV s).length = s.length := by simp [bytesV]
theorem strCells_bytes (s : List UInt8) : Lib.strCells ⟨s.toArray⟩ = bytesV s := by simp [Lib.strCells, bytesV]
theorem Held.at_ {T e : TypeId} {b : Nat} {p v : Value} {s : List UInt8} {w : World} (h : Held T e b p v s w) : Lib.BuilderAtF T e 0 b p (bytesV s) w :=
  ⟨Nat.zero_le _, v, h.cells, by rw [bytesV_length]; exact h.own, h.ne⟩
theorem Held.lt {T e : TypeId} {b : Nat} {p v : Value} {s : List UInt8} {w : World} (h : Held T e b p v s w) : b < w.heap.size := (Array.getElem?_eq_some_iff.1 h.cells).1
theorem held_check (L : Lays.n240 P ρ) (X : Builder.X72 P ρ) {b : Nat} {p v : Value} {s : List UInt8} {w : World} (hp : p = .pointer none ∨ p = self b) (h : Held (ρ.t 72) (ρ.t 5) b p v s w) :
    Calls P (ρ.f 240) #[.pointer (some ⟨b, 0, none⟩)] w fun e w' => e = .returned (.tuple #[]) ∧ Held (ρ.t 72) (ρ.t 5) b (self b) v s w' ∧ Keeps (· = b) w w' := by
  rcases hp with rfl | rfl
  · refine (Any.Builder_copyCheck_fresh L X b w h.at_.cell0 h.at_.shape ?_).mono ?_
    · simp [World.frozen?, h.cells]
    · rintro e w' ⟨rfl, rfl⟩
      have hk : Keeps (· = b) w (w.setCell ⟨b, 0, none⟩ (.pointer (some ⟨b, 0, none⟩))) :=
        ⟨rfl, rfl, rfl, by simp [World.setCell], fun k _ hk => Below.heap_setCell _ _ _ _ (fun e => hk (by simp [e]))⟩
      refine ⟨rfl, ⟨?_, ?_, h.ne⟩, hk⟩
      · simp [World.setCell, Array.getElem?_modify, h.cells, self]
      · exact h.own.kept (row := some b) ⟨rfl, rfl, rfl, by simp [World.setCell], fun k _ hk => Below.heap_setCell _ _ _ _ (fun e => hk (by simp [e]))⟩ (.inr h.ne)
  · refine (Any.Builder_copyCheck_used L X b w h.at_.cell0).mono ?_
    rintro e w' ⟨rfl, rfl⟩
    exact ⟨rfl, h, Keeps.refl _ _⟩
theorem held_put {T e : TypeId} {b : Nat} {v v' : Value} {s s' : List UInt8} {w w1 w2 : World} (h1 : Held T e b (self b) v s w1) (hk : Keeps (· = b) w w1) (hg : w1.grownBy w2 v.ownBlock) (hTe : T ≠ e)
    (ho : w2.ownsRowF 0 e 1 v' s'.length (bytesV s')) :
    Held T e b (self b) v' s' (w2.setCell ⟨b, 1, none⟩ v') ∧ Keeps (fun k => k = b ∨ v.ownBlock = some k) w (w2.setCell ⟨b, 1, none⟩ v') := by
  have hb2 : w2.heap[b]? = some (.cells #[self b, v] T (0, 0)) := by
    rw [hg.block b h1.lt (fun e => h1.ne e.symm)]; exact h1.cells
  have hput : Lib.BuilderAtF T e 0 b (self b) (bytesV s') (w2.setCell ⟨b, 1, none⟩ v') :=
    Lib.BuilderAtF.put (Nat.zero_le _) hb2 (by rw [bytesV_length]; exact ho) hTe
  obtain ⟨_, u, q1, q2, q3⟩ := hput
  have hu : u = v' := by
    have : (w2.setCell ⟨b, 1, none⟩ v').heap[b]? = some (.cells #[self b, v'] T (0, 0)) := by simp [World.setCell, Array.getElem?_modify, hb2]
    rw [q1] at this
    simp only [Option.some.injEq, Obj.cells.injEq] at this
    have h := congrArg (·[1]?) this.1
    simpa using h
  subst hu
  refine ⟨⟨q1, by rw [bytesV_length] at q2; exact q2, q3⟩, ?_⟩
  have hs2 : (w2.setCell ⟨b, 1, none⟩ u).heap.size = w2.heap.size := by simp [World.setCell]
  refine ⟨hg.os.trans hk.os, hg.tape.trans hk.tape, hg.output.trans hk.output, by rw [hs2]; exact Nat.le_trans hk.size hg.size, fun k hlt hn => ?_⟩
  have h2 : (w2.setCell ⟨b, 1, none⟩ u).heap[k]? = w2.heap[k]? := Below.heap_setCell _ _ _ _ (fun e => hn (.inl (by simpa using e)))
  rw [h2, hg.block k (Nat.lt_of_lt_of_le hlt hk.size) (fun e => hn (.inr e.symm))]
  exact hk.block k hlt (fun e => hn (.inl e))
theorem run_app_str (w : World) (t u ty e : TypeId) (i : TypeInfo) (ht : P.underlying t = some (.slice e)) (hu : P.underlying u = some .string) (hi : P.info? e = some i) (hz : i.zero = some (.int .u8 0)) (hsize : i.size = 1) (hby : i.bytes = 1)
    (v : Value) (n : Nat) (xs : List Value) (hown : w.ownsRowF 0 e 1 v n xs) (s : ByteArray) (h63 : n + s.size ≤ maxLen) (hbytes : n + s.size ≤ 140737488355328) :
    ∃ v' w', (Builtin.append_ #[t, u] ty #[v, .string s]).run P w = .ok v' w' ∧ w'.ownsRowF 0 e 1 v' (n + s.size) (xs ++ Lib.strCells s) ∧ w.grownBy w' v.ownBlock ∧ (∀ g, v'.ownBlock = some g → v.ownBlock = some g ∨ w.heap.size ≤ g) := by
  have hown0 := hown
  rcases hown.2 with ⟨rfl, rfl⟩ | ⟨g, cap, cur, fz, rfl, hbg, hg, hfz, hnc, hcm, hcs, htake⟩
  · obtain ⟨v', w', hr, h2, h3, _⟩ := Lib.run_append_own_stringF (P := P) w w.heap.size t u ty e i ht hu hi hz hsize hby (.slice none 0 0) 0 xs ⟨hown.1, .inl ⟨rfl, rfl⟩⟩ s h63 hbytes (Nat.le_refl _)
    refine ⟨v', w', hr, ⟨h2.1, ?_⟩, h3, fun k hk => .inr (h2.lt k hk).1⟩
    rcases h2.2 with h4 | ⟨g, cap, cur, fz, q1, q2, q3⟩
    · exact .inl h4
    · exact .inr ⟨g, cap, cur, fz, q1, Nat.zero_le _, q3⟩
  · obtain ⟨v', w', hr, h2, h3, _⟩ := Lib.run_append_own_stringF (P := P) w 0 t u ty e i ht hu hi hz hsize hby (.slice (some ⟨g, 0, none⟩) n cap) n xs hown0 s h63 hbytes (Nat.zero_le _)
    refine ⟨v', w', hr, h2, h3, fun k hk => ?_⟩
    have hxl : xs.length = n := by simpa using hown.1
    have hsm : n + s.size ≤ 9223372036854775807 := by simp only [maxLen] at h63; omega
    by_cases hroom : n + s.size ≤ cap
    · have hr2 := Lib.run_append_room_stringF (P := P) w t u ty e i ht hu hi hsize g n cap cur fz hg (by simpa using hfz) s hroom (by rw [hcs]; omega)
      rw [hr] at hr2
      injection hr2 with e1 e2
      subst e1
      exact .inl hk
    · have hr2 := Lib.run_append_grow_string (P := P) w t u ty e i (.int .u8 0) ht hu hi hz ⟨g, 0, none⟩ n cap xs (by rw [hsize]; simpa using hxl) (hown.cells (g := g) rfl) s (by omega) (by omega) (by rw [hby]; exact growslice_fits (by omega) (by omega))
      rw [hr] at hr2
      injection hr2 with e1 e2
      subst e1
      simp only [Value.ownBlock, Option.some.injEq] at hk
      exact .inr (by rw [← hk]; exact Nat.le_refl _)
theorem run_app_row (w : World) (t ty e : TypeId) (i : TypeInfo) (z : Value) (ht : P.underlying t = some (.slice e)) (hi : P.info? e = some i) (hz : i.zero = some z) (hsize : i.size = 1) (hby : i.bytes = 1) (hzs : z.cells.size = 1)
    (v : Value) (n : Nat) (xs : List Value) (hown : w.ownsRowF 0 e 1 v n xs) (a : Addr) (m c : Nat) (news : List Value) (hl : news.length = m * 1) (hnews : ∀ j u, news[j]? = some u → w.cell? (a.add j) = some u) (h1 : ∀ u ∈ news, u.oneCell' = true)
    (h63 : n + m ≤ maxLen) (hbytes : (n + m) * 1 ≤ 140737488355328) :
    ∃ v' w', (Builtin.append_ #[t, t] ty #[v, .slice (some a) m c]).run P w = .ok v' w' ∧ w'.ownsRowF 0 e 1 v' (n + m) (xs ++ news) ∧ w.grownBy w' v.ownBlock ∧ (∀ g, v'.ownBlock = some g → v.ownBlock = some g ∨ w.heap.size ≤ g) := by
  have hown0 := hown
  rcases hown.2 with ⟨rfl, rfl⟩ | ⟨g, cap, cur, fz, rfl, hbg, hg, hfz, hnc, hcm, hcs, htake⟩
  · obtain ⟨v', w', hr, h2, h3, _⟩ := run_append_ownF (P := P) w w.heap.size t ty e i z 1 1 ht hi hz hsize hby hzs (by decide) (.slice none 0 0) 0 xs ⟨hown.1, .inl ⟨rfl, rfl⟩⟩ a m c news hl hnews h1 h63 hbytes (Nat.le_refl _)
    refine ⟨v', w', hr, ⟨h2.1, ?_⟩, h3, fun k hk => .inr (h2.lt k hk).1⟩
    rcases h2.2 with h4 | ⟨g, cap, cur, fz, q1, q2, q3⟩
    · exact .inl h4
    · exact .inr ⟨g, cap, cur, fz, q1, Nat.zero_le _, q3⟩
  · obtain ⟨v', w', hr, h2, h3, _⟩ := run_append_ownF (P := P) w 0 t ty e i z 1 1 ht hi hz hsize hby hzs (by decide) (.slice (some ⟨g, 0, none⟩) n cap) n xs hown0 a m c news hl hnews h1 h63 hbytes (Nat.zero_le _)
    refine ⟨v', w', hr, h2, h3, fun k hk => ?_⟩
    have hsm : n + m ≤ 9223372036854775807 := by simp only [maxLen] at h63; omega
    by_cases hroom : n + m ≤ cap
    · have hr2 := run_append_roomF (P := P) w t ty e i ht hi g n cap cur fz hg (by rw [hsize]; exact hfz) a m c news (by rw [hsize]; exact hl) hnews h1 hroom (by rw [hsize, hl, hcs]; omega)
      rw [hr] at hr2
      injection hr2 with e1 e2
      subst e1
      exact .inl hk
    · have hr2 := run_append_grow (P := P) w t ty e i z ht hi hz ⟨g, 0, none⟩ n cap xs (by rw [hsize]; exact hown.1) (hown.cells (g := g) rfl) a m c news (by rw [hsize]; exact hl) hnews (by omega) (by omega) (by rw [hby]; exact growslice_fits (by omega) hbytes)
      rw [hr] at hr2
      injection hr2 with e1 e2
      subst e1
      simp only [Value.ownBlock, Option.some.injEq] at hk
      exact .inr (by rw [← hk]; exact Nat.le_refl _)
theorem wp_app_str {ops : Array Oper} {rest : List Oper} {o : Oper} {a : Act} {Q : Exit → Act → World → Prop} {w : World} (hgd : o.guard = none) (sl x : Operand) (t u : TypeId) (ho : o.op = .call { callee := .builtin .append, args := #[sl, x], argTypes := #[t, u] })
    (e : TypeId) (i : TypeInfo) (ht : P.underlying t = some (.slice e)) (hu : P.underlying u = some .string) (hi : P.info? e = some i) (hz : i.zero = some (.int .u8 0)) (hsize : i.size = 1) (hby : i.bytes = 1)
    (v : Value) (n : Nat) (xs : List Value) (hs : a.eval sl = v) (hown : w.ownsRowF 0 e 1 v n xs) (s : ByteArray) (hx : a.eval x = .string s) (h63 : n + s.size ≤ maxLen) (hbytes : n + s.size ≤ 140737488355328)
    (h : ∀ v' w', w'.ownsRowF 0 e 1 v' (n + s.size) (xs ++ Lib.strCells s) → w.grownBy w' v.ownBlock → (∀ g, v'.ownBlock = some g → v.ownBlock = some g ∨ w.heap.size ≤ g) → wpList P ops Q rest (a.put o.dst v') w') : wpList P ops Q (o :: rest) a w := by
  refine wpList_plain hgd fun K hK => ?_
  obtain ⟨v', w', hr, h2, h3, h4⟩ := run_app_str (P := P) w t u o.type e i ht hu hi hz hsize hby v n xs hown s h63 hbytes
  unfold Oper.wp execOp
  simp only [ho, resolve, invoke, builtin, Sem.run_bind, Sem.run_pure, Result.andThen_ok, List.map_toArray, List.map_cons, List.map_nil, hs, hx, hr]
  exact hK _ _ (h v' w' h2 h3 h4)
theorem wp_app_row {ops : Array Oper} {rest : List Oper} {o : Oper} {a : Act} {Q : Exit → Act → World → Prop} {w : World} (hgd : o.guard = none) (sl x : Operand) (t : TypeId) (ho : o.op = .call { callee := .builtin .append, args := #[sl, x], argTypes := #[t, t] })
    (e : TypeId) (i : TypeInfo) (z : Value) (ht : P.underlying t = some (.slice e)) (hi : P.info? e = some i) (hz : i.zero = some z) (hsize : i.size = 1) (hby : i.bytes = 1) (hzs : z.cells.size = 1)
    (v : Value) (n : Nat) (xs : List Value) (hs : a.eval sl = v) (hown : w.ownsRowF 0 e 1 v n xs) (ad : Addr) (m c : Nat) (news : List Value) (hx : a.eval x = .slice (some ad) m c) (hl : news.length = m * 1) (hnews : ∀ j u, news[j]? = some u → w.cell? (ad.add j) = some u)
    (h1 : ∀ u ∈ news, u.oneCell' = true) (h63 : n + m ≤ maxLen) (hbytes : (n + m) * 1 ≤ 140737488355328)
    (h : ∀ v' w', w'.ownsRowF 0 e 1 v' (n + m) (xs ++ news) → w.grownBy w' v.ownBlock → (∀ g, v'.ownBlock = some g → v.ownBlock = some g ∨ w.heap.size ≤ g) → wpList P ops Q rest (a.put o.dst v') w') : wpList P ops Q (o :: rest) a w := by
  refine wpList_plain hgd fun K hK => ?_
  obtain ⟨v', w', hr, h2, h3, h4⟩ := run_app_row (P := P) w t o.type e i z ht hi hz hsize hby hzs v n xs hown ad m c news hl hnews h1 h63 hbytes
  unfold Oper.wp execOp
  simp only [ho, resolve, invoke, builtin, Sem.run_bind, Sem.run_pure, Result.andThen_ok, List.map_toArray, List.map_cons, List.map_nil, hs, hx, hr]
  exact hK _ _ (h v' w' h2 h3 h4)
set_option maxHeartbeats 2000000 in
set_option maxRecDepth 100000 in
theorem held_string (L : Lays.n166 P ρ) (X : Builder.Extra P ρ) {b : Nat} {p v : Value} {s : List UInt8} {w : World} (hp : p = .pointer none ∨ p = self b) (h : Held (ρ.t 72) (ρ.t 5) b p v s w) (x : List UInt8)
    (hlen : s.length + x.length ≤ 140737488355328) :
    Calls P (ρ.f 166) #[.pointer (some ⟨b, 0, none⟩), .string ⟨x.toArray⟩] w fun e w' => e = .returned (.tuple #[.int .i64 x.length, .nilIface]) ∧
      ∃ v', Held (ρ.t 72) (ρ.t 5) b (self b) v' (s ++ x) w' ∧ Keeps (fun k => k = b ∨ v.ownBlock = some k) w w' ∧ (∀ g, v'.ownBlock = some g → v.ownBlock = some g ∨ w.heap.size ≤ g) := by
  obtain ⟨i0, hi, hz0, hz1, hz2⟩ := info_parts X.infoByte
  have mixed := L.mixed
  have t72 := L.t72; have a72 := L.a72; have z72 := L.z72; have v72 := L.v72; have u72 := run_underlying L.t72
  have t70 := L.t70; have a70 := L.a70; have z70 := L.z70; have v70 := L.v70; have u70 := run_underlying L.t70
  have t37 := L.t37; have a37 := L.a37; have z37 := L.z37; have v37 := L.v37; have u37 := run_underlying L.t37
  have t3 := L.t3; have a3 := L.a3; have z3 := L.z3; have v3 := L.v3; have u3 := run_underlying L.t3
  have t9 := L.t9; have a9 := L.a9; have z9 := L.z9; have v9 := L.v9; have u9 := run_underlying L.t9
  have t5 := X.t5; have a5 := X.a5; have z5 := X.z5; have v5 := X.v5; have u5 := run_underlying X.t5
  have e240 : ∀ args w, (callFunc (ρ.f 240) args).run P w = .ok (.enter (ρ.f 240) args) w := enters_of L.f240 (by kernel_rfl) rfl
  go_enter L.f166, Body.n166_ntmps ρ
  go_wp2_with (go_at_fn (ρ.f 240); refine (held_check { L with } X.toX72 hp h).mono ?_)
  rintro e w1 ⟨rfl, h1, hk1⟩
  have c0 : w1.cell? ⟨b, 0, none⟩ = some (self b) := by rw [Lib.cell_of_heap h1.cells]; rfl
  have c1 : w1.cell? ⟨b, 1, none⟩ = some v := by rw [Lib.cell_of_heap h1.cells]; rfl
  go_wp2_with (at_builtin; refine wp_app_str rfl _ _ (ρ.t 37) (ρ.t 9) rfl (ρ.t 5) i0 L.t37 L.t9 hi hz0 hz1 hz2 _ _ _ rfl h1.own ⟨x.toArray⟩ rfl ?k1 ?k2 ?_)
  case k1 => unfold maxLen; show _ + x.toArray.size ≤ _; rw [List.size_toArray]; omega
  case k2 => show _ + x.toArray.size ≤ _; rw [List.size_toArray]; omega
  intro v' w2 ho' hgrow hold
  have ho2 : w2.ownsRowF 0 (ρ.t 5) 1 v' (s ++ x).length (bytesV (s ++ x)) := by
    have := ho'
    rw [strCells_bytes] at this
    simpa [bytesV] using this
  obtain ⟨r1, r2⟩ := held_put h1 hk1 hgrow X.neB5 ho2
  have hb2 : w2.heap[b]? = some (.cells #[self b, v] (ρ.t 72) (0, 0)) := by
    rw [hgrow.block b h1.lt (fun e => h1.ne e.symm)]; exact h1.cells
  have d0 : w2.cell? ⟨b, 0, none⟩ = some (self b) := by rw [Lib.cell_of_heap hb2]; rfl
  have d1 : w2.cell? ⟨b, 1, none⟩ = some v := by rw [Lib.cell_of_heap hb2]; rfl
  have f1 : w2.frozen? ⟨b, 1, none⟩ = false := Lib.frozen_of_heap hb2 1
  obtain ⟨ao, n', cap, rfl⟩ : ∃ ao n' cap, v' = .slice ao n' cap := by
    rcases ho'.2 with ⟨hv, _⟩ | ⟨g, cap, cur, fz, hv, _⟩
    · exact ⟨_, _, _, hv⟩
    · exact ⟨_, _, _, hv⟩
  go_wp2
  go_ret2
  refine ⟨?_, _, r1, r2, fun g hg => ?_⟩
  · rfl
  · exact (hold g hg).imp id fun h5 => Nat.le_trans hk1.size h5
theorem freeze_keep (w : World) (g : Nat) {n : Nat} (hn : n ≠ 0) : Keeps (fun k => k = g) w (w.freeze ⟨g, 0, none⟩ n) := by
  unfold World.freeze
  rw [if_neg hn]
  exact ⟨rfl, rfl, rfl, by simp, fun k _ hk => by simp [Array.getElem?_modify, Ne.symm hk]⟩
theorem Held.alloc {T e : TypeId} {b : Nat} {p v : Value} {s : List UInt8} {w : World} (h : Held T e b p v s w) (o : Obj) : Held T e b p v s (w.alloc o) :=
  ⟨by rw [Lib.alloc_old w o b h.lt]; exact h.cells, h.own.alloc o, h.ne⟩
set_option maxHeartbeats 2000000 in
set_option maxRecDepth 100000 in
theorem held_byte (L : Lays.n167 P ρ) (X : Builder.Extra P ρ) {b : Nat} {p v : Value} {s : List UInt8} {w : World} (hp : p = .pointer none ∨ p = self b) (h : Held (ρ.t 72) (ρ.t 5) b p v s w) (x : UInt8)
    (hlen : s.length + 1 ≤ 140737488355328) :
    Calls P (ρ.f 167) #[.pointer (some ⟨b, 0, none⟩), .int .u8 x.toNat] w fun e w' => e = .returned .nilIface ∧
      ∃ v', Held (ρ.t 72) (ρ.t 5) b (self b) v' (s ++ [x]) w' ∧ Keeps (fun k => k = b ∨ v.ownBlock = some k) w w' ∧ (∀ g, v'.ownBlock = some g → v.ownBlock = some g ∨ w.heap.size ≤ g) := by
  obtain ⟨i0, hi, hz0, hz1, hz2⟩ := info_parts X.infoByte
  have mixed := L.mixed
  have t72 := L.t72; have a72 := L.a72; have z72 := L.z72; have v72 := L.v72; have u72 := run_underlying L.t72
  have t70 := L.t70; have a70 := L.a70; have z70 := L.z70; have v70 := L.v70; have u70 := run_underlying L.t70
  have t5 := L.t5; have a5 := L.a5; have z5 := L.z5; have v5 := L.v5; have u5 := run_underlying L.t5
  have t37 := L.t37; have a37 := L.a37; have z37 := L.z37; have v37 := L.v37; have u37 := run_underlying L.t37
  have e240 : ∀ args w, (callFunc (ρ.f 240) args).run P w = .ok (.enter (ρ.f 240) args) w := enters_of L.f240 (by kernel_rfl) rfl
  go_enter L.f167, Body.n167_ntmps ρ
  go_wp2_with (go_at_fn (ρ.f 240); refine (held_check { L with } X.toX72 hp h).mono ?_)
  rintro e w1 ⟨rfl, h1, hk1⟩
  have c0 : w1.cell? ⟨b, 0, none⟩ = some (self b) := by rw [Lib.cell_of_heap h1.cells]; rfl
  have c1 : w1.cell? ⟨b, 1, none⟩ = some v := by rw [Lib.cell_of_heap h1.cells]; rfl
  go_wp2_with (at_builtin; refine wp_app_row rfl _ _ (ρ.t 37) rfl (ρ.t 5) i0 (.int .u8 0) L.t37 hi hz0 hz1 hz2 rfl _ _ _ rfl (h1.own.alloc _) ⟨w1.heap.size, 0, none⟩ 1 1 [.int .u8 x.toNat] rfl rfl ?k1 ?k2 ?k3 ?k4 ?_)
  case k1 =>
    intro j u hj
    match j, hj with
    | 0, hj => simp at hj; subst hj; simp [Addr.add]
  case k2 => intro u hu; simp at hu; subst hu; rfl
  case k3 => unfold maxLen; omega
  case k4 => omega
  intro v' w2 ho' hgrow hold
  have ho2 : w2.ownsRowF 0 (ρ.t 5) 1 v' (s ++ [x]).length (bytesV (s ++ [x])) := by simpa [bytesV] using ho'
  obtain ⟨r1, r2⟩ := held_put (h1.alloc _) (hk1.trans (Keeps.alloc _ _ _)) hgrow X.neB5 ho2
  have hb2 : w2.heap[b]? = some (.cells #[self b, v] (ρ.t 72) (0, 0)) := by
    rw [hgrow.block b (h1.alloc _).lt (fun e => h1.ne e.symm)]; exact (h1.alloc _).cells
  have d0 : w2.cell? ⟨b, 0, none⟩ = some (self b) := by rw [Lib.cell_of_heap hb2]; rfl
  have d1 : w2.cell? ⟨b, 1, none⟩ = some v := by rw [Lib.cell_of_heap hb2]; rfl
  have f1 : w2.frozen? ⟨b, 1, none⟩ = false := Lib.frozen_of_heap hb2 1
  obtain ⟨ao, n', cap, rfl⟩ : ∃ ao n' cap, v' = .slice ao n' cap := by
    rcases ho'.2 with ⟨hv, _⟩ | ⟨g, cap, cur, fz, hv, _⟩
    · exact ⟨_, _, _, hv⟩
    · exact ⟨_, _, _, hv⟩
  go_wp2
  go_ret
  refine ⟨rfl, _, r1, r2, fun g hg => ?_⟩
  refine (hold g hg).imp id fun h5 => Nat.le_trans hk1.size (Nat.le_trans ?_ h5)
  simp
set_option maxHeartbeats 2000000 in
set_option maxRecDepth 100000 in
theorem held_text (L : Lays.n169 P ρ) (X : Builder.Extra P ρ) {b : Nat} {p v : Value} {s : List UInt8} {w : World} (h : Held (ρ.t 72) (ρ.t 5) b p v s w) (h0 : s ≠ []) :
    Calls P (ρ.f 169) #[.pointer (some ⟨b, 0, none⟩)] w fun e w' => e = .returned (.string ⟨s.toArray⟩) ∧ Held (ρ.t 72) (ρ.t 5) b p v s w' ∧ Keeps (fun k => k = b ∨ v.ownBlock = some k) w w' := by
  have hl0 : s.length ≠ 0 := by simpa using h0
  obtain ⟨g, cap, cur, fz, hv, _, hg, hfz, hnc, hcm, hcs, htake⟩ : ∃ g cap cur fz, v = .slice (some ⟨g, 0, none⟩) s.length cap ∧ 0 ≤ g ∧ w.heap[g]? = some (.cells cur (ρ.t 5) fz) ∧ fz.2 ≤ s.length * 1 ∧ s.length ≤ cap ∧ cap ≤ maxLen ∧ cur.size = cap * 1 ∧ cur.toList.take (s.length * 1) = bytesV s := by
    rcases h.own.2 with ⟨_, hz⟩ | ⟨g, cap, cur, fz, hv, r⟩
    · exact absurd hz hl0
    · exact ⟨g, cap, cur, fz, hv, r⟩
  have hgb : g ≠ b := fun e => h.ne (by rw [hv, e]; rfl)
  have c1 : w.drew.cell? ⟨b, 1, none⟩ = some (.slice (some ⟨g, 0, none⟩) s.length cap) := by
    have : w.drew.heap[b]? = some (.cells #[p, v] (ρ.t 72) (0, 0)) := h.cells
    rw [Lib.cell_of_heap this, hv]; rfl
  have hSD : (Builtin.unsafeSliceData_ #[(ρ.t 37)] (ρ.t 127) #[.slice (some ⟨g, 0, none⟩) s.length cap]).run P w.drew = .ok (.pointer (some ⟨g, 0, none⟩)) w.drew :=
    Lib.run_unsafeSliceData_row _ _ _ _ _ _ (by omega)
  have hUS : (Builtin.unsafeString_ #[(ρ.t 127), (ρ.t 3)] (ρ.t 9) #[.pointer (some ⟨g, 0, none⟩), .int .i64 s.length]).run P w.drew = .ok (.string ⟨s.toArray⟩) (w.drew.freeze ⟨g, 0, none⟩ s.length) := by
    refine Lib.run_unsafeString_row w.drew (ρ.t 127) (ρ.t 3) (ρ.t 9) (ρ.t 5) L.t127 X.cellsByte g cur.size (by have hg' : w.drew.heap[g]? = some (.cells cur (ρ.t 5) fz) := hg; simp [World.shape?, hg']) s h0 (by omega) (by unfold maxLen at hcm; omega) ?_
    intro j x hx
    have := h.own.cells (g := g) (by rw [hv]; rfl) j (.int .u8 x.toNat) (by simp [bytesV, hx])
    exact this
  have hkeep : Held (ρ.t 72) (ρ.t 5) b p v s (w.drew.freeze ⟨g, 0, none⟩ s.length) := by
    have hA : Lib.BuilderAtF (ρ.t 72) (ρ.t 5) 0 b p (bytesV s) w.drew := h.at_
    have hF := hA.froze (g := g) (cap := cap) (by rw [bytesV_length]; exact c1)
    rw [bytesV_length] at hF
    obtain ⟨_, u, q1, q2, q3⟩ := hF
    have hu : u = v := by
      have hk2 : (w.drew.freeze ⟨g, 0, none⟩ s.length).heap[b]? = some (.cells #[p, v] (ρ.t 72) (0, 0)) := by
        rw [show (w.drew.freeze ⟨g, 0, none⟩ s.length).heap[b]? = w.heap[b]? from (freeze_keep w.drew g hl0).block b h.lt (Ne.symm hgb)]; exact h.cells
      rw [q1] at hk2
      simp only [Option.some.injEq, Obj.cells.injEq] at hk2
      have h := congrArg (·[1]?) hk2.1
      simpa using h
    subst hu
    exact ⟨q1, by rw [bytesV_length] at q2; exact q2, q3⟩
  have hks : Keeps (fun k => k = b ∨ v.ownBlock = some k) w (w.drew.freeze ⟨g, 0, none⟩ s.length) :=
    ((Keeps.drew (fun k => k = g) w).trans (freeze_keep w.drew g hl0)).mono fun k _ e => .inr (by rw [hv, e]; rfl)
  have mixed := L.mixed
  have t72 := L.t72; have a72 := L.a72; have z72 := L.z72; have v72 := L.v72; have u72 := run_underlying L.t72
  have t70 := L.t70; have a70 := L.a70; have z70 := L.z70; have v70 := L.v70; have u70 := run_underlying L.t70
  have t37 := L.t37; have a37 := L.a37; have z37 := L.z37; have v37 := L.v37; have u37 := run_underlying L.t37
  have t127 := L.t127; have a127 := L.a127; have z127 := L.z127; have v127 := L.v127; have u127 := run_underlying L.t127
  have t3 := L.t3; have a3 := L.a3; have z3 := L.z3; have v3 := L.v3; have u3 := run_underlying L.t3
  have t9 := L.t9; have a9 := L.a9; have z9 := L.z9; have v9 := L.v9; have u9 := run_underlying L.t9
  have t5 := X.t5; have a5 := X.a5; have z5 := X.z5; have v5 := X.v5; have u5 := run_underlying X.t5
  go_enter L.f169, Body.n169_ntmps ρ
  go_wp2
  go_region_o
  all_goals (go_wp2; go_ret; exact ⟨rfl, hkeep, hks⟩)
end Pv
end Go.Proofs.YtafnkpmoolbjjaaDoor
/- THE LIBRARY's functions on texts: general forms of their contracts in the words of pure calls. -/
set_option linter.unusedSimpArgs false
set_option linter.unusedVariables false
namespace Go.Proofs.YtafnkpmoolbjjaaDoor
namespace Pv
open Go.RowKit
theorem ownsF_lt {w : World} {e z n : Nat} {v : Value} {vs : List Value} (h : w.ownsRowF 0 e z v n vs) : ∀ b, v.ownBlock = some b → b < w.heap.size := fun b hb => by
  rcases h.2 with ⟨h0, _⟩ | ⟨g, cap, cur, fz, h0, _, h2, _⟩
  · subst h0; cases hb
  · subst h0; injection hb with hb; subst hb
    exact (Array.getElem?_eq_some_iff.1 h2).1
theorem pure_bld {P : Program} {f T e : Nat} {args : List PV} {us : List Value} {val : PV} {rv : Value} {s s' : List UInt8}
    (hfn : ∃ fn, P.funcs[f]? = some fn ∧ fn.body.isSome = true ∧ (fn.name == "runtime.NumGoroutine") = false)
    (hargs : ∀ (X : Cx) (γ : Gh) (w : World) (vals : List Value), RepL X γ w args vals → vals = us) (hval : ∀ (X : Cx) (γ : Gh) (w : World), Rep X γ w val rv)
    (h : ∀ (w : World) (b : Nat) (p v : Value), (p = .pointer none ∨ p = self b) → Held T e b p v s w →
      Calls P f (self b :: us).toArray w fun ev w' => ev = .returned rv ∧ ∃ p' v', (p' = .pointer none ∨ p' = self b) ∧ Held T e b p' v' s' w' ∧ Keeps (fun k => k = b ∨ v.ownBlock = some k) w w' ∧ (∀ g, v'.ownBlock = some g → v.ownBlock = some g ∨ w.heap.size ≤ g)) :
    PureCall P f (.pt 0 0 0 :: args) [.bld T e s] ⟨val, [.bld T e s'], []⟩ := by
  refine ⟨hfn, fun w γ as_ ls vals hst hX hr => ?_⟩
  obtain ⟨v0, us', rfl, hv, hus⟩ := hr.cons_inv
  have := hargs _ _ _ _ hus
  subst this
  obtain ⟨ge, b, hge, hgb, rfl⟩ := pt_inv hv
  obtain ⟨b', p, v, g1, g2, g3, g4, g5, g6⟩ := hst.at_ 0 ge (.bld T e s) hge rfl
  have hb : b' = b := by rw [g1] at hgb; injection hgb
  subst hb
  have hheld : Held T e b' p v s w := ⟨g4, g5, g6⟩
  have hself : Value.pointer (some ⟨b', 0 * ge.z + 0, none⟩) = self b' := by rw [Nat.zero_mul]; rfl
  rw [hself]
  refine (h w b' p v g3 hheld).mono ?_
  rintro ev w' ⟨he, p', v', hp', hH, hk, hold⟩
  have hnone : ∀ r, r ≠ 0 → γ r = none := fun r hr => by
    have := hst.dom r
    rw [List.getElem?_eq_none (by simp; omega)] at this
    simpa using this
  have hblt : b' < w.heap.size := hheld.lt
  let ge' : GE := ⟨some b', v', ge.z⟩
  have hhas : ∀ k, ge'.has k → ge.has k ∨ w.heap.size ≤ k := fun k hk => by
    rcases hk with hk | hk
    · exact .inl (.inl (by injection hk with hk; rw [← hk]; exact g1))
    · exact (hold k hk).imp (fun h => .inr (by rw [g2]; exact h)) id
  have hown : ∀ k, ge.has k → γ.own k := fun k hk => ⟨0, ge, hge, hk⟩
  have hown' : ∀ k, Gh.own (fun r => if r = 0 then some ge' else none) k → γ.own k ∨ w.heap.size ≤ k := fun k ⟨r, g, hr, hb⟩ => by
    by_cases h0 : r = 0
    · simp only [h0, if_true, Option.some.injEq] at hr
      subst hr
      exact (hhas k hb).imp (hown k) id
    · simp only [h0, if_false] at hr; cases hr
  have hkeep : Keeps γ.own w w' := hk.mono fun k _ hk => by
    rcases hk with rfl | hk
    · exact hown _ (.inl g1)
    · exact hown _ (.inr (by rw [g2]; exact hk))
  refine ⟨rv, fun r => if r = 0 then some ge' else none, he, hval _ _ _, ?_, hkeep, fun r hr => ?_, fun r g k hr hb => ?_⟩
  · refine ⟨fun r => ?_, fun r g se hr hs => ?_, fun r r' g g' k hr hr' _ _ => ?_, fun k hk => ?_, fun k ⟨r, g, hr, hb⟩ => ?_, ?_⟩
    rotate_right
    · exact glob_keep hst.glob (fun k hlt hn => hkeep.block k hlt hn) hown'
    · by_cases h : r = 0
      · subst h; rfl
      · simp only [h, if_false, resSt]
        by_cases h2 : newBase ≤ r
        · rw [if_pos h2]; rfl
        · rw [if_neg h2, List.getElem?_eq_none (by simp; omega)]; rfl
    · by_cases h : r = 0
      · subst h
        simp only [if_true, Option.some.injEq] at hr
        subst hr
        have hs' : some (SE.bld T e s') = some se := hs
        injection hs' with hs'
        subst hs'
        exact ⟨b', p', v', rfl, rfl, hp', hH.cells, hH.own, hH.ne⟩
      · simp only [h, if_false] at hr; cases hr
    · by_cases h : r = 0
      · by_cases h' : r' = 0
        · rw [h, h']
        · simp only [h', if_false] at hr'; cases hr'
      · simp only [h, if_false] at hr; cases hr
    · rcases hown' k hk with h | h
      · exact hst.asOff k h
      · exact ⟨fun ha => by have := hX k (.inl ha); omega, fun ha => by have := hX k (.inr ha); omega⟩
    · by_cases h : r = 0
      · simp only [h, if_true, Option.some.injEq] at hr
        subst hr
        rcases hb with hb | hb
        · injection hb with hb; rw [← hb]; exact hH.lt
        · exact ownsF_lt hH.own k hb
      · simp only [h, if_false] at hr; cases hr
  · have h0 : r = 0 := by simp [nbx] at hr; exact hr
    subst h0
    exact ⟨ge', ge, rfl, hge, g1.symm, rfl⟩
  · by_cases h : r = 0
    · simp only [h, if_true, Option.some.injEq] at hr
      subst hr
      rcases hhas k hb with h1 | h1
      · exact .inr (.inr ⟨ge, by rw [h]; exact hge, h1⟩)
      · exact .inl h1
    · simp only [h, if_false] at hr; cases hr
theorem pure_still {P : Program} {f : Nat} {args : List PV} {us : List Value} {val : PV} {rv : Value}
    (hfn : ∃ fn, P.funcs[f]? = some fn ∧ fn.body.isSome = true ∧ (fn.name == "runtime.NumGoroutine") = false)
    (hargs : ∀ (X : Cx) (γ : Gh) (w : World) (vals : List Value), RepL X γ w args vals → vals = us) (hval : ∀ (X : Cx) (γ : Gh) (w : World), Rep X γ w val rv)
    (h : ∀ (w : World), (∀ b p, Pv.glob b = some p → ∃ o, w.heap[b]? = some o ∧ p o) → Calls P f us.toArray w fun ev w' => ev = .returned rv ∧ Keeps (fun _ => False) w w') :
    PureCall P f args [] ⟨val, [], []⟩ := by
  refine ⟨hfn, fun w γ as_ ls vals hst hX hr => ?_⟩
  have := hargs _ _ _ _ hr
  subst this
  refine (h w fun b p hb => (hst.glob b p hb).1).mono ?_
  rintro ev w' ⟨he, hk⟩
  have hnone : ∀ r, γ r = none := fun r => by
    have := hst.dom r
    simpa using this
  have hno : ∀ b, ¬ γ.own b := fun b ⟨r, ge, hr, _⟩ => by rw [hnone r] at hr; cases hr
  have hkeep : Keeps γ.own w w' := hk.mono fun k _ h => h.elim
  refine ⟨rv, γ, he, hval _ _ _, ?_, hkeep, fun r hr => by simp [nbx] at hr, fun r ge b hr hb => by rw [hnone r] at hr; cases hr⟩
  refine ⟨fun r => ?_, fun r ge se hr hs => (by rw [hnone r] at hr; cases hr), fun r r' ge ge' b hr => (by rw [hnone r] at hr; cases hr), fun b hb => absurd hb (hno b), fun b hb => absurd hb (hno b), ?_⟩
  · rw [hnone r]; unfold resSt
    split <;> rfl
  · exact glob_keep hst.glob (fun k hlt hn => hkeep.block k hlt hn) fun b hb => .inl hb
theorem pure_new2 {P : Program} {f : Nat} {args : List PV} {us : List Value} {e z n : Nat} {g : Nat → List PV} {vs : List Value}
    (hfn : ∃ fn, P.funcs[f]? = some fn ∧ fn.body.isSome = true ∧ (fn.name == "runtime.NumGoroutine") = false)
    (hargs : ∀ (X : Cx) (γ : Gh) (w : World) (vals : List Value), RepL X γ w args vals → vals = us) (hrows : ∀ (X : Cx) (γ : Gh) (w : World), RowsRep X γ w 0 z n g vs)
    (h : ∀ (w : World), (∀ b p, Pv.glob b = some p → ∃ o, w.heap[b]? = some o ∧ p o) →
      Calls P f us.toArray w fun ev w' => ∃ v', ev = .returned v' ∧ w'.ownsRow w.heap.size e z v' n vs ∧ Keeps (fun _ => False) w w') :
    PureCall P f args [] ⟨.os 1000000000, [], [.row 0 e z n g]⟩ := by
  refine ⟨hfn, fun w γ as_ ls vals hst hX hr => ?_⟩
  have := hargs _ _ _ _ hr
  subst this
  refine (h w fun b p hb => (hst.glob b p hb).1).mono ?_
  rintro ev w' ⟨v', he, ho, hk⟩
  have ho0 : OwnsG w' e z v' n vs := OwnsG_of ho
  have hone : v'.oneCell' = true := slice_one ho0
  have hblk : ∀ b, v'.ownBlock = some b → w.heap.size ≤ b ∧ b < w'.heap.size := fun b hb => by
    refine ⟨?_, own_lt' ho0 b hb⟩
    rcases ho.2 with ⟨h0, _⟩ | ⟨g, cap, cur, h0, h1, _⟩
    · subst h0; cases hb
    · subst h0; injection hb with hb; subst hb; exact h1
  have hnone : ∀ r, γ r = none := fun r => by
    have := hst.dom r
    simpa using this
  refine ⟨v', fun r => if r = 1000000000 then some ⟨v'.ownBlock, v', z⟩ else none, he, .os _ ⟨v'.ownBlock, v', z⟩ (by simp) hone rfl, ?_, ⟨hk.os, hk.tape, hk.output, hk.size, fun b hb _ => hk.block b hb (fun h => h)⟩, fun r hr => by simp [nbx] at hr, fun r ge b hr hb => ?_⟩
  · refine ⟨fun r => ?_, fun r ge se hr hs => ?_, fun r r' ge ge' b hr hr' _ _ => ?_, fun b ⟨r, ge, hr, hb⟩ => ?_, fun b ⟨r, ge, hr, hb⟩ => ?_, ?_⟩
    rotate_right
    · refine glob_keep hst.glob (fun b hlt _ => hk.block b hlt (fun h => h)) (fun b ⟨r, ge, hr, hb⟩ => ?_)
      by_cases h : r = 1000000000
      · simp only [h, if_true, Option.some.injEq] at hr
        subst hr
        exact .inr (hblk b ((GE.has_row rfl).1 hb)).1
      · simp only [h, if_false] at hr; cases hr
    · by_cases h : r = 1000000000
      · subst h; simp [resSt, newBase]
      · simp only [h, if_false, resSt]
        by_cases h2 : newBase ≤ r
        · have : 1 ≤ r - newBase := by unfold newBase at *; omega
          rw [if_pos h2, List.getElem?_eq_none (by simpa using this)]; rfl
        · rw [if_neg h2]; simp
    · by_cases h : r = 1000000000
      · subst h
        simp only [if_true, Option.some.injEq] at hr
        subst hr
        simp [resSt, newBase] at hs
        subst hs
        exact (hrows _ _ _).repS rfl rfl hone ho0
      · simp only [h, if_false] at hr; cases hr
    · by_cases h : r = 1000000000
      · by_cases h' : r' = 1000000000
        · rw [h, h']
        · simp only [h', if_false] at hr'; cases hr'
      · simp only [h, if_false] at hr; cases hr
    · by_cases h : r = 1000000000
      · simp only [h, if_true, Option.some.injEq] at hr
        subst hr
        have := (hblk b ((GE.has_row rfl).1 hb)).1
        exact ⟨fun ha => by have := hX b (.inl ha); omega, fun ha => by have := hX b (.inr ha); omega⟩
      · simp only [h, if_false] at hr; cases hr
    · by_cases h : r = 1000000000
      · simp only [h, if_true, Option.some.injEq] at hr
        subst hr
        exact (hblk b ((GE.has_row rfl).1 hb)).2
      · simp only [h, if_false] at hr; cases hr
  · by_cases h : r = 1000000000
    · simp only [h, if_true, Option.some.injEq] at hr
      subst hr
      exact .inl (hblk b ((GE.has_row rfl).1 hb)).1
    · simp only [h, if_false] at hr; cases hr
/-! ## texts in a slice -/
def eStr (s : List UInt8) : List PV := [.str s]
def strV (s : List UInt8) : Value := .string ⟨s.toArray⟩
theorem strs_rows {X : Cx} {γ : Gh} {w : World} (l : List (List UInt8)) : RowsRep X γ w 0 1 l.length (fl eStr l) (l.map strV) := by
  refine ⟨by simp, fun u hu => ?_, fun i hi => rfl, fun i hi c hc => ?_, fun i j c u hi hc hu => ?_⟩
  · obtain ⟨n, _, rfl⟩ := List.mem_map.1 hu; rfl
  · have : c = .str (l.getD i default) := by simpa [fl, eStr] using hc
    subst this; rfl
  · have hj : j = 0 := by
      have := (List.getElem?_eq_some_iff.1 hc).1
      simp [fl, eStr] at this; omega
    subst hj
    have : c = .str (l.getD i default) := by
      have h0 : some (PV.str (l.getD i default)) = some c := hc
      injection h0 with h0; exact h0.symm
    subst this
    rw [Nat.mul_one, Nat.add_zero, List.getElem?_map, getD_some hi] at hu
    injection hu with hu; subst hu
    exact .str _
end Pv
end Go.Proofs.YtafnkpmoolbjjaaDoor
/- PLAIN: texts cut at a byte. -/
set_option linter.unusedSimpArgs false
set_option linter.unusedVariables false
namespace Go.Proofs.YtafnkpmoolbjjaaDoor
namespace Pv
def splitC (c : UInt8) : List UInt8 → List (List UInt8)
  | [] => [[]]
  | x :: xs => if x = c then [] :: splitC c xs else match splitC c xs with
    | [] => [[x]]
    | h :: t => (x :: h) :: t
def brkC (c : UInt8) : List UInt8 → List UInt8 × List UInt8 × Bool
  | [] => ([], [], false)
  | x :: xs => if x = c then ([], xs, true) else (x :: (brkC c xs).1, (brkC c xs).2)
theorem splitC_ne (c : UInt8) (s : List UInt8) : splitC c s ≠ [] := by
  cases s with
  | nil => simp [splitC]
  | cons x xs =>
    unfold splitC
    split
    · simp
    · split <;> simp
theorem splitC_brk (c : UInt8) : ∀ s : List UInt8, splitC c s = if (brkC c s).2.2 = true then (brkC c s).1 :: splitC c (brkC c s).2.1 else [s]
  | [] => rfl
  | x :: xs => by
    by_cases h : x = c
    · simp [splitC, brkC, h]
    · have ih := splitC_brk c xs
      simp only [splitC, brkC, if_neg h]
      by_cases h2 : (brkC c xs).2.2 = true
      · rw [if_pos h2] at ih ⊢
        rw [ih]
      · rw [if_neg h2] at ih ⊢
        rw [ih]
theorem brkC_len (c : UInt8) : ∀ s : List UInt8, (brkC c s).1.length ≤ s.length ∧ (brkC c s).2.1.length ≤ s.length ∧ ((brkC c s).2.2 = true → (brkC c s).1.length + 1 + (brkC c s).2.1.length = s.length)
  | [] => by simp [brkC]
  | x :: xs => by
    have ih := brkC_len c xs
    unfold brkC
    split
    · simp; omega
    · simp only [List.length_cons]
      refine ⟨by omega, by omega, fun h => ?_⟩
      have := ih.2.2 h
      omega
theorem splitC_len (c : UInt8) : ∀ s : List UInt8, (splitC c s).length ≤ s.length + 1 ∧ ∀ x ∈ splitC c s, x.length ≤ s.length
  | [] => by simp [splitC]
  | x :: xs => by
    have ih := splitC_len c xs
    unfold splitC
    split
    · refine ⟨by simp; omega, fun y hy => ?_⟩
      rcases List.mem_cons.1 hy with rfl | hy
      · simp
      · have := ih.2 y hy; simp; omega
    · split
      · simp
      · rename_i h t e
        rw [e] at ih
        refine ⟨by simp at ih ⊢; omega, fun y hy => ?_⟩
        rcases List.mem_cons.1 hy with rfl | hy
        · have := ih.2 h (by simp); simp; omega
        · have := ih.2 y (by simp [hy]); simp; omega
theorem index_cons_eq (c : UInt8) (l : List UInt8) : Lib.index (c :: l) [c] = 0 := by rw [Lib.index]; simp [List.isPrefixOf]
theorem index_cons_ne (b c : UInt8) (l : List UInt8) (h : b ≠ c) : Lib.index (b :: l) [c] = if Lib.index l [c] == -1 then -1 else Lib.index l [c] + 1 := by
  have hp : ([c] : List UInt8).isPrefixOf (b :: l) = false := by simp [List.isPrefixOf, Ne.symm h]
  rw [Lib.index, hp]; simp
theorem cut_brk (c : UInt8) : ∀ s : List UInt8, Lib.cut s [c] = brkC c s
  | [] => by simp [Lib.cut, Lib.index, brkC]
  | b :: l => by
    have ih := cut_brk c l
    have hge := Lib.index_ge l [c]
    by_cases h : b = c
    · subst h
      unfold Lib.cut brkC
      rw [index_cons_eq, if_pos (by decide), if_pos rfl]
      rfl
    · unfold brkC
      rw [if_neg h, ← ih]
      unfold Lib.cut
      rw [index_cons_ne b c l h]
      by_cases hm : Lib.index l [c] = -1
      · rw [hm]; rfl
      · obtain ⟨j, hj⟩ : ∃ j : Nat, Lib.index l [c] = j := ⟨(Lib.index l [c]).toNat, by omega⟩
        have e0 : (if (Lib.index l [c] == -1) = true then (-1 : Int) else Lib.index l [c] + 1) = (j : Int) + 1 := by rw [if_neg (by simpa using hm), hj]
        rw [e0, hj, if_pos (by omega), if_pos (by omega)]
        have e1 : ((j : Int) + 1).toNat = j + 1 := by omega
        have e2 : (j : Int).toNat = j := by omega
        rw [e1, e2]
        simp [Nat.add_assoc]
theorem splitK_C (c : UInt8) : ∀ s : List UInt8, Lib.splitK [c] 0 (Lib.count s [c]) s = splitC c s
  | [] => by rw [Lib.count_one]; rfl
  | b :: l => by
    have ih := splitK_C c l
    have hge := Lib.index_ge l [c]
    by_cases h : b = c
    · subst h
      rw [Lib.count_cons_eq, Nat.add_comm, Lib.splitK, index_cons_eq]
      simp only [splitC, if_pos]
      have e : ((0 : Int) == -1) = false := by decide
      rw [e]
      simpa using ih
    · rw [Lib.count_cons_ne b c l h]
      unfold splitC
      rw [if_neg h, ← ih]
      by_cases hm : Lib.index l [c] = -1
      · rw [Lib.count_miss hm]
        rfl
      · obtain ⟨j, hj⟩ : ∃ j : Nat, Lib.index l [c] = j := ⟨(Lib.index l [c]).toNat, by omega⟩
        rw [Lib.count_hit (by simp) hj, Nat.add_comm, Lib.splitK, Lib.splitK, index_cons_ne b c l h, hj]
        have e1 : ((j : Int) == -1) = false := beq_eq_false_iff_ne.2 (by omega)
        have e2 : (((j : Int) + 1) == -1) = false := beq_eq_false_iff_ne.2 (by omega)
        have e3 : ((j : Int) + 1).toNat = j + 1 := by omega
        have e4 : (j : Int).toNat = j := by omega
        rw [e1]
        simp only [Bool.false_eq_true, if_false]
        rw [e2]
        simp only [Bool.false_eq_true, if_false, e3, e4, Nat.add_zero]
        simp [Nat.add_assoc, Nat.add_comm 1 1]
end Pv
end Go.Proofs.YtafnkpmoolbjjaaDoor
/- THE LIBRARY's strings.Builder AT THIS PROGRAM: the layings of its functions. -/
set_option linter.unusedSimpArgs false
set_option linter.unusedVariables false
namespace Go.Proofs.YtafnkpmoolbjjaaDoor
namespace Sh
open Go.Shelf
def lays240_ren : Go.Shelf.Ren := ⟨fun | 166 => 32 | 240 => 47 | 276 => 59 | 169 => 33 | n => n, fun | 70 => 71 | 72 => 73 | 37 => 32 | 75 => 75 | 80 => 78 | 164 => 131 | 127 => 114 | n => n, fun | n => n⟩
theorem lays240 : Go.Proofs.Lays.n240 Tryd.prog lays240_ren := {
  mixed := by kernel_rfl
  f240 := Tryd.func47.trans (congrArg some (by kernel_rfl))
  f276 := Tryd.func59.trans (congrArg some (by kernel_rfl))
  t0 := Tryd.underlying0
  a0 := Tryd.isAgg0
  z0 := Tryd.sizeOf0
  v0 := Tryd.zeroValue0
  t4 := Tryd.underlying4
  a4 := Tryd.isAgg4
  z4 := Tryd.sizeOf4
  v4 := Tryd.zeroValue4
  t9 := Tryd.underlying9
  a9 := Tryd.isAgg9
  z9 := Tryd.sizeOf9
  v9 := Tryd.zeroValue9
  t20 := Tryd.underlying20
  a20 := Tryd.isAgg20
  z20 := Tryd.sizeOf20
  v20 := Tryd.zeroValue20
  t70 := Tryd.underlying71
  a70 := Tryd.isAgg71
  z70 := Tryd.sizeOf71
  v70 := Tryd.zeroValue71
  t72 := Tryd.underlying73
  a72 := Tryd.isAgg73
  z72 := Tryd.sizeOf73
  v72 := Tryd.zeroValue73
  t164 := Tryd.underlying131
  a164 := Tryd.isAgg131
  z164 := Tryd.sizeOf131
  v164 := Tryd.zeroValue131 }
def lays166_ren : Go.Shelf.Ren := ⟨fun | 166 => 32 | 240 => 47 | 276 => 59 | 169 => 33 | n => n, fun | 70 => 71 | 72 => 73 | 37 => 32 | 75 => 75 | 80 => 78 | 164 => 131 | 127 => 114 | n => n, fun | n => n⟩
theorem lays166 : Go.Proofs.Lays.n166 Tryd.prog lays166_ren := {
  mixed := by kernel_rfl
  f166 := Tryd.func32.trans (congrArg some (by kernel_rfl))
  f240 := Tryd.func47.trans (congrArg some (by kernel_rfl))
  f276 := Tryd.func59.trans (congrArg some (by kernel_rfl))
  t0 := Tryd.underlying0
  a0 := Tryd.isAgg0
  z0 := Tryd.sizeOf0
  v0 := Tryd.zeroValue0
  t3 := Tryd.underlying3
  a3 := Tryd.isAgg3
  z3 := Tryd.sizeOf3
  v3 := Tryd.zeroValue3
  t4 := Tryd.underlying4
  a4 := Tryd.isAgg4
  z4 := Tryd.sizeOf4
  v4 := Tryd.zeroValue4
  t9 := Tryd.underlying9
  a9 := Tryd.isAgg9
  z9 := Tryd.sizeOf9
  v9 := Tryd.zeroValue9
  t20 := Tryd.underlying20
  a20 := Tryd.isAgg20
  z20 := Tryd.sizeOf20
  v20 := Tryd.zeroValue20
  t37 := Tryd.underlying32
  a37 := Tryd.isAgg32
  z37 := Tryd.sizeOf32
  v37 := Tryd.zeroValue32
  t70 := Tryd.underlying71
  a70 := Tryd.isAgg71
  z70 := Tryd.sizeOf71
  v70 := Tryd.zeroValue71
  t72 := Tryd.underlying73
  a72 := Tryd.isAgg73
  z72 := Tryd.sizeOf73
  v72 := Tryd.zeroValue73
  t75 := Tryd.underlying75
  a75 := Tryd.isAgg75
  z75 := Tryd.sizeOf75
  v75 := Tryd.zeroValue75
  t164 := Tryd.underlying131
  a164 := Tryd.isAgg131
  z164 := Tryd.sizeOf131
  v164 := Tryd.zeroValue131 }
def lays169_ren : Go.Shelf.Ren := ⟨fun | 166 => 32 | 240 => 47 | 276 => 59 | 169 => 33 | n => n, fun | 70 => 71 | 72 => 73 | 37 => 32 | 75 => 75 | 80 => 78 | 164 => 131 | 127 => 114 | n => n, fun | n => n⟩
theorem lays169 : Go.Proofs.Lays.n169 Tryd.prog lays169_ren := {
  mixed := by kernel_rfl
  f169 := Tryd.func33.trans (congrArg some (by kernel_rfl))
  t0 := Tryd.underlying0
  a0 := Tryd.isAgg0
  z0 := Tryd.sizeOf0
  v0 := Tryd.zeroValue0
  t3 := Tryd.underlying3
  a3 := Tryd.isAgg3
  z3 := Tryd.sizeOf3
  v3 := Tryd.zeroValue3
  t9 := Tryd.underlying9
  a9 := Tryd.isAgg9
  z9 := Tryd.sizeOf9
  v9 := Tryd.zeroValue9
  t37 := Tryd.underlying32
  a37 := Tryd.isAgg32
  z37 := Tryd.sizeOf32
  v37 := Tryd.zeroValue32
  t70 := Tryd.underlying71
  a70 := Tryd.isAgg71
  z70 := Tryd.sizeOf71
  v70 := Tryd.zeroValue71
  t72 := Tryd.underlying73
  a72 := Tryd.isAgg73
  z72 := Tryd.sizeOf73
  v72 := Tryd.zeroValue73
  t127 := Tryd.underlying114
  a127 := Tryd.isAgg114
  z127 := Tryd.sizeOf114
  v127 := Tryd.zeroValue114 }
theorem bX_240 : Go.Proofs.Builder.X72 Tryd.prog lays240_ren := {
  sizeBuilder := by kernel_rfl
  liesBuilder := by kernel_rfl }
theorem bX_166 : Go.Proofs.Builder.Extra Tryd.prog lays166_ren := {
  sizeBuilder := by kernel_rfl
  liesBuilder := by kernel_rfl
  t5 := Tryd.underlying5
  a5 := Tryd.isAgg5
  z5 := Tryd.sizeOf5
  v5 := Tryd.zeroValue5
  infoByte := by kernel_rfl
  cellsByte := by kernel_rfl
  sizeByte := by kernel_rfl
  neB5 := by decide }
theorem bX_169 : Go.Proofs.Builder.Extra Tryd.prog lays169_ren := {
  sizeBuilder := by kernel_rfl
  liesBuilder := by kernel_rfl
  t5 := Tryd.underlying5
  a5 := Tryd.isAgg5
  z5 := Tryd.sizeOf5
  v5 := Tryd.zeroValue5
  infoByte := by kernel_rfl
  cellsByte := by kernel_rfl
  sizeByte := by kernel_rfl
  neB5 := by decide }
end Sh
end Go.Proofs.YtafnkpmoolbjjaaDoor
/- THE LIBRARY's CONTRACTS AT THIS PROGRAM: laid by the shelf's own programs (plain words). -/
set_option linter.unusedSimpArgs false
set_option linter.unusedVariables false
namespace Go.Proofs.YtafnkpmoolbjjaaDoor
namespace Sh
open Go.Shelf
def laysM171_ren : Go.Shelf.Ren := ⟨fun | 171 => 27 | 243 => 42 | 246 => 54 | 283 => 67 | 284 => 68 | 285 => 69 | 286 => 70 | 129 => 84 | 317 => 83 | 318 => 85 | 319 => 86 | 320 => 87 | 337 => 94 | 338 => 95 | n => n, fun | 3 => 3 | 9 => 9 | 2 => 2 | 4 => 4 | 171 => 153 | 0 => 0 | 53 => 154 | 37 => 32 | 5 => 5 | 173 => 157 | 212 => 174 | 51 => 175 | 20 => 20 | 213 => 176 | 46 => 160 | 232 => 188 | 233 => 189 | n => n, fun | 17 => 1 | 18 => 4 | 19 => 5 | n => n⟩
theorem laysM171 : Go.Proofs.LaysM.n171 Tryd.prog laysM171_ren := {
  mixed := by kernel_rfl
  f129 := Tryd.func84.trans (congrArg some (by kernel_rfl))
  f171 := Tryd.func27.trans (congrArg some (by kernel_rfl))
  f243 := Tryd.func42.trans (congrArg some (by kernel_rfl))
  f246 := Tryd.func54.trans (congrArg some (by kernel_rfl))
  f283 := Tryd.func67.trans (congrArg some (by kernel_rfl))
  f284 := Tryd.func68.trans (congrArg some (by kernel_rfl))
  f285 := Tryd.func69.trans (congrArg some (by kernel_rfl))
  f286 := Tryd.func70.trans (congrArg some (by kernel_rfl))
  f317 := Tryd.func83.trans (congrArg some (by kernel_rfl))
  f318 := Tryd.func85.trans (congrArg some (by kernel_rfl))
  f319 := Tryd.func86.trans (congrArg some (by kernel_rfl))
  f320 := Tryd.func87.trans (congrArg some (by kernel_rfl))
  f337 := Tryd.func94.trans (congrArg some (by kernel_rfl))
  f338 := Tryd.func95.trans (congrArg some (by kernel_rfl))
  t0 := Tryd.underlying0
  a0 := Tryd.isAgg0
  z0 := Tryd.sizeOf0
  v0 := Tryd.zeroValue0
  t2 := Tryd.underlying2
  a2 := Tryd.isAgg2
  z2 := Tryd.sizeOf2
  v2 := Tryd.zeroValue2
  t3 := Tryd.underlying3
  a3 := Tryd.isAgg3
  z3 := Tryd.sizeOf3
  v3 := Tryd.zeroValue3
  t4 := Tryd.underlying4
  a4 := Tryd.isAgg4
  z4 := Tryd.sizeOf4
  v4 := Tryd.zeroValue4
  t5 := Tryd.underlying5
  a5 := Tryd.isAgg5
  z5 := Tryd.sizeOf5
  v5 := Tryd.zeroValue5
  t9 := Tryd.underlying9
  a9 := Tryd.isAgg9
  z9 := Tryd.sizeOf9
  v9 := Tryd.zeroValue9
  t20 := Tryd.underlying20
  a20 := Tryd.isAgg20
  z20 := Tryd.sizeOf20
  v20 := Tryd.zeroValue20
  t37 := Tryd.underlying32
  a37 := Tryd.isAgg32
  z37 := Tryd.sizeOf32
  v37 := Tryd.zeroValue32
  t46 := Tryd.underlying160
  a46 := Tryd.isAgg160
  z46 := Tryd.sizeOf160
  v46 := Tryd.zeroValue160
  t51 := Tryd.underlying175
  a51 := Tryd.isAgg175
  z51 := Tryd.sizeOf175
  v51 := Tryd.zeroValue175
  t53 := Tryd.underlying154
  a53 := Tryd.isAgg154
  z53 := Tryd.sizeOf154
  v53 := Tryd.zeroValue154
  t171 := Tryd.underlying153
  a171 := Tryd.isAgg153
  z171 := Tryd.sizeOf153
  v171 := Tryd.zeroValue153
  t173 := Tryd.underlying157
  a173 := Tryd.isAgg157
  z173 := Tryd.sizeOf157
  v173 := Tryd.zeroValue157
  t212 := Tryd.underlying174
  a212 := Tryd.isAgg174
  z212 := Tryd.sizeOf174
  v212 := Tryd.zeroValue174
  t213 := Tryd.underlying176
  a213 := Tryd.isAgg176
  z213 := Tryd.sizeOf176
  t232 := Tryd.underlying188
  a232 := Tryd.isAgg188
  z232 := Tryd.sizeOf188
  v232 := Tryd.zeroValue188
  t233 := Tryd.underlying189
  a233 := Tryd.isAgg189
  z233 := Tryd.sizeOf189
  v233 := Tryd.zeroValue189
  g17 := by kernel_rfl
  g18 := by kernel_rfl
  g19 := by kernel_rfl
  i0 := by kernel_rfl
  i2 := by kernel_rfl
  i3 := by kernel_rfl
  i4 := by kernel_rfl
  i5 := by kernel_rfl
  i9 := by kernel_rfl
  i20 := by kernel_rfl
  i37 := by kernel_rfl
  i46 := by kernel_rfl
  i51 := by kernel_rfl
  i53 := by kernel_rfl
  i171 := by kernel_rfl
  i173 := by kernel_rfl
  i212 := by kernel_rfl
  i232 := by kernel_rfl
  i233 := by kernel_rfl
  m17 := by kernel_rfl
  m18 := by kernel_rfl
  m19 := by kernel_rfl }
def lays145_ren : Go.Shelf.Ren := ⟨fun | 145 => 28 | 220 => 43 | 219 => 55 | 217 => 71 | 225 => 72 | 224 => 73 | 267 => 74 | 266 => 88 | 314 => 89 | n => n, fun | 9 => 9 | 4 => 4 | 59 => 66 | 3 => 3 | 5 => 5 | 46 => 160 | 146 => 179 | 51 => 175 | n => n, fun | 1 => 0 | n => n⟩
theorem lays145 : Go.Proofs.Lays.n145 Tryd.prog lays145_ren := {
  mixed := by kernel_rfl
  f145 := Tryd.func28.trans (congrArg some (by kernel_rfl))
  f217 := Tryd.func71.trans (congrArg some (by kernel_rfl))
  f219 := Tryd.func55.trans (congrArg some (by kernel_rfl))
  f220 := Tryd.func43.trans (congrArg some (by kernel_rfl))
  f224 := Tryd.func73.trans (congrArg some (by kernel_rfl))
  f225 := Tryd.func72.trans (congrArg some (by kernel_rfl))
  f266 := Tryd.func88.trans (congrArg some (by kernel_rfl))
  f267 := Tryd.func74.trans (congrArg some (by kernel_rfl))
  f314 := Tryd.func89.trans (congrArg some (by kernel_rfl))
  t3 := Tryd.underlying3
  a3 := Tryd.isAgg3
  z3 := Tryd.sizeOf3
  v3 := Tryd.zeroValue3
  t4 := Tryd.underlying4
  a4 := Tryd.isAgg4
  z4 := Tryd.sizeOf4
  v4 := Tryd.zeroValue4
  t5 := Tryd.underlying5
  a5 := Tryd.isAgg5
  z5 := Tryd.sizeOf5
  v5 := Tryd.zeroValue5
  t9 := Tryd.underlying9
  a9 := Tryd.isAgg9
  z9 := Tryd.sizeOf9
  v9 := Tryd.zeroValue9
  t46 := Tryd.underlying160
  a46 := Tryd.isAgg160
  z46 := Tryd.sizeOf160
  v46 := Tryd.zeroValue160
  t51 := Tryd.underlying175
  a51 := Tryd.isAgg175
  z51 := Tryd.sizeOf175
  v51 := Tryd.zeroValue175
  t59 := Tryd.underlying66
  a59 := Tryd.isAgg66
  z59 := Tryd.sizeOf66
  v59 := Tryd.zeroValue66
  t146 := Tryd.underlying179
  a146 := Tryd.isAgg179
  z146 := Tryd.sizeOf179
  v146 := Tryd.zeroValue179
  g1 := by kernel_rfl }
def lays146_ren : Go.Shelf.Ren := ⟨fun | 146 => 30 | 221 => 45 | 268 => 56 | 138 => 57 | 143 => 58 | 195 => 75 | 197 => 76 | 218 => 77 | 219 => 55 | 260 => 90 | 217 => 71 | 225 => 72 | 224 => 73 | 267 => 74 | 266 => 88 | 314 => 89 | n => n, fun | 9 => 9 | 31 => 33 | 3 => 3 | 4 => 4 | 0 => 0 | 105 => 162 | 21 => 21 | 5 => 5 | 46 => 160 | 119 => 184 | 139 => 187 | 138 => 186 | 146 => 179 | 51 => 175 | n => n, fun | 1 => 0 | 3 => 2 | 4 => 3 | n => n⟩
theorem lays146 : Go.Proofs.Lays.n146 Tryd.prog lays146_ren := {
  mixed := by kernel_rfl
  f138 := Tryd.func57.trans (congrArg some (by kernel_rfl))
  f143 := Tryd.func58.trans (congrArg some (by kernel_rfl))
  f146 := Tryd.func30.trans (congrArg some (by kernel_rfl))
  f195 := Tryd.func75.trans (congrArg some (by kernel_rfl))
  f197 := Tryd.func76.trans (congrArg some (by kernel_rfl))
  f217 := Tryd.func71.trans (congrArg some (by kernel_rfl))
  f218 := Tryd.func77.trans (congrArg some (by kernel_rfl))
  f219 := Tryd.func55.trans (congrArg some (by kernel_rfl))
  f221 := Tryd.func45.trans (congrArg some (by kernel_rfl))
  f224 := Tryd.func73.trans (congrArg some (by kernel_rfl))
  f225 := Tryd.func72.trans (congrArg some (by kernel_rfl))
  f260 := Tryd.func90.trans (congrArg some (by kernel_rfl))
  f266 := Tryd.func88.trans (congrArg some (by kernel_rfl))
  f267 := Tryd.func74.trans (congrArg some (by kernel_rfl))
  f268 := Tryd.func56.trans (congrArg some (by kernel_rfl))
  f314 := Tryd.func89.trans (congrArg some (by kernel_rfl))
  t0 := Tryd.underlying0
  a0 := Tryd.isAgg0
  z0 := Tryd.sizeOf0
  v0 := Tryd.zeroValue0
  t3 := Tryd.underlying3
  a3 := Tryd.isAgg3
  z3 := Tryd.sizeOf3
  v3 := Tryd.zeroValue3
  t4 := Tryd.underlying4
  a4 := Tryd.isAgg4
  z4 := Tryd.sizeOf4
  v4 := Tryd.zeroValue4
  t5 := Tryd.underlying5
  a5 := Tryd.isAgg5
  z5 := Tryd.sizeOf5
  v5 := Tryd.zeroValue5
  t9 := Tryd.underlying9
  a9 := Tryd.isAgg9
  z9 := Tryd.sizeOf9
  v9 := Tryd.zeroValue9
  t21 := Tryd.underlying21
  a21 := Tryd.isAgg21
  z21 := Tryd.sizeOf21
  v21 := Tryd.zeroValue21
  t31 := Tryd.underlying33
  a31 := Tryd.isAgg33
  z31 := Tryd.sizeOf33
  v31 := Tryd.zeroValue33
  t46 := Tryd.underlying160
  a46 := Tryd.isAgg160
  z46 := Tryd.sizeOf160
  v46 := Tryd.zeroValue160
  t51 := Tryd.underlying175
  a51 := Tryd.isAgg175
  z51 := Tryd.sizeOf175
  v51 := Tryd.zeroValue175
  t105 := Tryd.underlying162
  a105 := Tryd.isAgg162
  z105 := Tryd.sizeOf162
  v105 := Tryd.zeroValue162
  t119 := Tryd.underlying184
  a119 := Tryd.isAgg184
  z119 := Tryd.sizeOf184
  t138 := Tryd.underlying186
  a138 := Tryd.isAgg186
  z138 := Tryd.sizeOf186
  v138 := Tryd.zeroValue186
  t139 := Tryd.underlying187
  a139 := Tryd.isAgg187
  z139 := Tryd.sizeOf187
  v139 := Tryd.zeroValue187
  t146 := Tryd.underlying179
  a146 := Tryd.isAgg179
  z146 := Tryd.sizeOf179
  v146 := Tryd.zeroValue179
  g1 := by kernel_rfl
  g3 := by kernel_rfl
  g4 := by kernel_rfl }
open Go.RowKit Go.Sort Go.Lib in
theorem strconv_Itoa (n : Int) (h0 : -9223372036854775808 ≤ n) (h1 : n ≤ 9223372036854775807) (w : World) (htab : Lib.TabIs Tryd.prog w "internal/strconv.uint64pow10" .u64 Lib.pow10Tab) :
    Calls Tryd.prog 27 #[.int .i64 n] w fun e w' => e = .returned (.string ⟨(Lib.itoa n).toArray⟩) ∧ ∃ k os, w' = grow (w.drewN k) os := Any.strconv_Itoa laysM171 n h0 h1 w htab
open Go.RowKit Go.Lib in
theorem strings_Cut (s sep : ByteArray) (m : Int) (w : World) (hs : s.size < 4294967281) (hm : w.cell? ⟨0, 0, none⟩ = some (.int .i64 m)) :
    Calls Tryd.prog 28 #[.string s, .string sep] w fun e w' => e = .returned (.tuple #[.string ⟨(Lib.cut s.data.toList sep.data.toList).1.toArray⟩, .string ⟨(Lib.cut s.data.toList sep.data.toList).2.1.toArray⟩, .bool (Lib.cut s.data.toList sep.data.toList).2.2]) ∧ ∃ n, w' = w.drewN n := Any.strings_Cut lays145 s sep m w hs hm
open Go.RowKit Go.Lib in
theorem strings_Split (s sep : ByteArray) (m : Int) (w : World) (hs : s.size < 4294967281) (hm : w.cell? ⟨0, 0, none⟩ = some (.int .i64 m)) (h1 : 1 ≤ sep.size) :
    Calls Tryd.prog 30 #[.string s, .string sep] w fun e w' =>
      e = .returned (.slice (some ⟨w.heap.size, 0, none⟩) (Lib.countB s sep + 1) (Lib.countB s sep + 1)) ∧ w' = w.alloc (.cells ((Lib.splitB sep 0 (Lib.countB s sep) s).map Value.string).toArray 9) := Any.strings_Split lays146 (by kernel_rfl) s sep m w hs hm h1
end Sh
end Go.Proofs.YtafnkpmoolbjjaaDoor
/- LAW 42: the library's functions on texts, as pure calls. -/
set_option linter.unusedSimpArgs false
set_option linter.unusedVariables false
namespace Go.Proofs.YtafnkpmoolbjjaaDoor
namespace Pv
open Go.RowKit
theorem args_nil (X : Cx) (γ : Gh) (w : World) (vals : List Value) (h : RepL X γ w [] vals) : vals = [] := h.nil_inv
theorem args_str (s : List UInt8) (X : Cx) (γ : Gh) (w : World) (vals : List Value) (h : RepL X γ w [.str s] vals) : vals = [strV s] := by
  obtain ⟨v, us, rfl, hv, hus⟩ := h.cons_inv
  rw [hv.str_inv, hus.nil_inv]; rfl
theorem args_str2 (s t : List UInt8) (X : Cx) (γ : Gh) (w : World) (vals : List Value) (h : RepL X γ w [.str s, .str t] vals) : vals = [strV s, strV t] := by
  obtain ⟨v, us, rfl, hv, hus⟩ := h.cons_inv
  rw [hv.str_inv, args_str t X γ w us hus]; rfl
theorem args_int (k : IntKind) (n : Int) (X : Cx) (γ : Gh) (w : World) (vals : List Value) (h : RepL X γ w [.int k n] vals) : vals = [.int k n] := by
  obtain ⟨v, us, rfl, hv, hus⟩ := h.cons_inv
  rw [hv.int_inv, hus.nil_inv]
theorem rep_raw (X : Cx) (γ : Gh) (w : World) : Rep X γ w (.raw .nilIface) .nilIface := .raw _ rfl
theorem rep_tup1 (n : Int) (X : Cx) (γ : Gh) (w : World) : Rep X γ w (.tup [.int .i64 n, .raw .nilIface]) (.tuple #[.int .i64 n, .nilIface]) := by
  refine .tup _ [.int .i64 n, .nilIface] rfl fun k c u hc hu => ?_
  match k, hc, hu with
  | 0, hc, hu => injection hc with hc; injection hu with hu; subst hc; subst hu; exact .int _ _
  | 1, hc, hu => injection hc with hc; injection hu with hu; subst hc; subst hu; exact .raw _ rfl
  | k + 2, hc, hu => simp at hc
theorem call32 (s x : List UInt8) (h : s.length + x.length ≤ 140737488355328) : PureCall Tryd.prog 32 [.pt 0 0 0, .str x] [.bld 73 5 s] ⟨.tup [.int .i64 x.length, .raw .nilIface], [.bld 73 5 (s ++ x)], []⟩ :=
  pure_bld ⟨_, Tryd.func32, rfl, rfl⟩ (args_str x) (rep_tup1 x.length) fun w b p v hp hH =>
    (held_string Sh.lays166 Sh.bX_166 hp hH x h).mono fun ev w' ⟨he, v', h1, h2, h3⟩ => ⟨he, self b, v', .inr rfl, h1, h2, h3⟩
theorem call33 (s : List UInt8) (h : s ≠ []) : PureCall Tryd.prog 33 [.pt 0 0 0] [.bld 73 5 s] ⟨.str s, [.bld 73 5 s], []⟩ :=
  pure_bld ⟨_, Tryd.func33, rfl, rfl⟩ args_nil (fun _ _ _ => .str s) fun w b p v hp hH =>
    (held_text Sh.lays169 Sh.bX_169 hH h).mono fun ev w' ⟨he, h1, h2⟩ => ⟨he, p, v, hp, h1, h2, fun g hg => .inl hg⟩
theorem keeps_grow (w : World) (k : Nat) (os : Array Obj) : Keeps (fun _ => False) w (Sort.grow (w.drewN k) os) :=
  ⟨rfl, rfl, rfl, by simp [Sort.grow], fun b hb _ => by simp [Sort.grow, Array.getElem?_append, hb]⟩
theorem keeps_drewN (w : World) (k : Nat) : Keeps (fun _ => False) w (w.drewN k) := ⟨rfl, rfl, rfl, Nat.le_refl _, fun b hb _ => rfl⟩
theorem pow_tab {w : World} (hg : ∀ b p, Pv.glob b = some p → ∃ o, w.heap[b]? = some o ∧ p o) : Lib.TabIs Tryd.prog w "internal/strconv.uint64pow10" .u64 Lib.pow10Tab := by
  obtain ⟨o, ho, T, fz, rfl⟩ := hg 1 isPow10 rfl
  unfold Lib.TabIs World.var?
  rw [show Tryd.prog.globalNamed "internal/strconv.uint64pow10" = some 1 from by kernel_rfl]
  simp [ho]
theorem some_int {w : World} (hg : ∀ b p, Pv.glob b = some p → ∃ o, w.heap[b]? = some o ∧ p o) : ∃ m, w.cell? ⟨0, 0, none⟩ = some (.int .i64 m) := by
  obtain ⟨o, ho, cs, T, fz, m, rfl, hm⟩ := hg 0 someInt rfl
  exact ⟨m, by rw [Lib.cell_of_heap ho]; exact hm⟩
theorem call27 (n : Int) (h0 : -9223372036854775808 ≤ n) (h1 : n ≤ 9223372036854775807) : PureCall Tryd.prog 27 [.int .i64 n] [] ⟨.str (Lib.itoa n), [], []⟩ :=
  pure_still ⟨_, Tryd.func27, rfl, rfl⟩ (args_int .i64 n) (fun _ _ _ => .str _) fun w hg =>
    (Sh.strconv_Itoa n h0 h1 w (pow_tab hg)).mono fun ev w' ⟨he, k, os, hw⟩ => ⟨he, by rw [hw]; exact keeps_grow w k os⟩
theorem rep_cut (a b : List UInt8) (c : Bool) (X : Cx) (γ : Gh) (w : World) : Rep X γ w (.tup [.str a, .str b, .bool c]) (.tuple #[.string ⟨a.toArray⟩, .string ⟨b.toArray⟩, .bool c]) := by
  refine .tup _ [.string ⟨a.toArray⟩, .string ⟨b.toArray⟩, .bool c] rfl fun k p u hc hu => ?_
  match k, hc, hu with
  | 0, hc, hu => injection hc with hc; injection hu with hu; subst hc; subst hu; exact .str _
  | 1, hc, hu => injection hc with hc; injection hu with hu; subst hc; subst hu; exact .str _
  | 2, hc, hu => injection hc with hc; injection hu with hu; subst hc; subst hu; exact .bool _
  | k + 3, hc, hu => simp at hc
theorem call28 (s : List UInt8) (c : UInt8) (h : s.length < 4294967281) : PureCall Tryd.prog 28 [.str s, .str [c]] [] ⟨.tup [.str (brkC c s).1, .str (brkC c s).2.1, .bool (brkC c s).2.2], [], []⟩ :=
  pure_still ⟨_, Tryd.func28, rfl, rfl⟩ (args_str2 s [c]) (rep_cut _ _ _) fun w hg => by
    obtain ⟨m, hm⟩ := some_int hg
    refine (Sh.strings_Cut ⟨s.toArray⟩ ⟨#[c]⟩ m w (by show s.toArray.size < _; rw [List.size_toArray]; exact h) hm).mono ?_
    rintro ev w' ⟨he, k, hw⟩
    refine ⟨?_, by rw [hw]; exact keeps_drewN w k⟩
    rw [he]
    show Ending.returned (.tuple #[.string ⟨(Lib.cut s [c]).1.toArray⟩, .string ⟨(Lib.cut s [c]).2.1.toArray⟩, .bool (Lib.cut s [c]).2.2]) = _
    rw [cut_brk]
theorem splitB_C (s : List UInt8) (c : UInt8) : (Lib.splitB ⟨#[c]⟩ 0 (Lib.countB ⟨s.toArray⟩ ⟨#[c]⟩) ⟨s.toArray⟩).map Value.string = (splitC c s).map strV := by
  have h := Lib.splitB_data ⟨#[c]⟩ 0 (Lib.countB ⟨s.toArray⟩ ⟨#[c]⟩) ⟨s.toArray⟩
  have h2 : Lib.splitK [c] 0 (Lib.count s [c]) s = splitC c s := splitK_C c s
  have h3 : (Lib.splitB ⟨#[c]⟩ 0 (Lib.countB ⟨s.toArray⟩ ⟨#[c]⟩) ⟨s.toArray⟩).map (·.data.toList) = splitC c s := h.trans h2
  rw [← h3, List.map_map]
  exact List.map_congr_left fun x _ => by
    show Value.string x = Value.string ⟨x.data.toList.toArray⟩
    simp
theorem call30 (s : List UInt8) (c : UInt8) (h : s.length < 4294967281) : PureCall Tryd.prog 30 [.str s, .str [c]] [] ⟨.os 1000000000, [], [.row 0 9 1 (splitC c s).length (fl eStr (splitC c s))]⟩ := by
  have h1 : 1 ≤ (⟨#[c]⟩ : ByteArray).size := Nat.le_refl 1
  have hN : Lib.countB ⟨s.toArray⟩ ⟨#[c]⟩ + 1 = (splitC c s).length := by
    rw [← Lib.splitB_all ⟨#[c]⟩ h1 0 _ ⟨s.toArray⟩ rfl, ← List.length_map (f := Value.string), splitB_C, List.length_map]
  refine pure_new2 (vs := (splitC c s).map strV) ⟨_, Tryd.func30, rfl, rfl⟩ (args_str2 s [c]) (fun X γ w => strs_rows (splitC c s)) fun w hg => ?_
  obtain ⟨m, hm⟩ := some_int hg
  refine (Sh.strings_Split ⟨s.toArray⟩ ⟨#[c]⟩ m w (by show s.toArray.size < _; rw [List.size_toArray]; exact h) hm h1).mono ?_
  rintro ev w' ⟨he, hw⟩
  rw [splitB_C] at hw
  rw [hN] at he
  have hle := (splitC_len c s).1
  have hnew : w'.heap[w.heap.size]? = some (.cells ((splitC c s).map strV).toArray 9 (0, 0)) := by
    rw [hw]
    show (w.heap.push _)[w.heap.size]? = _
    simp
  refine ⟨_, he, ⟨by simp, .inr ⟨w.heap.size, _, _, rfl, Nat.le_refl _, hnew, Nat.le_refl _, by unfold maxLen; omega, by simp, by simp only [Nat.mul_one]; exact List.take_of_length_le (by simp)⟩⟩, by rw [hw]; exact Keeps.alloc _ _ _⟩
end Pv
end Go.Proofs.YtafnkpmoolbjjaaDoor
/- LAW 42, THE WALKS: a line of a text. -/
set_option linter.unusedSimpArgs false
set_option linter.unusedVariables false
namespace Go.Proofs.YtafnkpmoolbjjaaDoor
namespace Pv
def c46L1 : C := (.seq (.seq (.reg [⟨(some 24), 384, none, .mv (.t 5)⟩,
    ⟨(some 25), 400, none, .mv (.t 0)⟩,
    ⟨(some 26), 416, none, .lens (.t 25)⟩,
    ⟨(some 27), 432, none, .bi false .lss (.t 24) (.t 26)⟩])
  (.cond (.t 27) .skip (.exit 0)))
  (.seq (.block 1 (.seq (.seq (.reg [⟨(some 30), 480, none, .mv (.t 0)⟩,
    ⟨(some 31), 496, none, .mv (.t 5)⟩,
    ⟨(some 32), 512, none, .ixs (.t 30) (.t 31)⟩,
    ⟨(some 33), 528, none, .bi false .lss (.t 32) (.c (.int .u8 48))⟩,
    ⟨(some 34), 544, none, .mv (.t 33)⟩,
    ⟨(some 35), 560, (some (34, false)), .mv (.t 0)⟩,
    ⟨(some 36), 576, (some (34, false)), .mv (.t 5)⟩,
    ⟨(some 37), 592, (some (34, false)), .ixs (.t 35) (.t 36)⟩,
    ⟨(some 38), 608, (some (34, false)), .bi false .gtr (.t 37) (.c (.int .u8 57))⟩,
    ⟨(some 39), 624, none, .pick (.t 34) (.c (.bool true)) (.t 38)⟩])
  (.cond (.t 39) (.seq (.reg [⟨(some 2), 32, none, .mv (.c (.int .i64 0))⟩,
    ⟨(some 3), 48, none, .mv (.c (.bool false))⟩])
  .ret) .skip))
  (.reg [⟨(some 40), 640, none, .mv (.t 4)⟩,
    ⟨(some 41), 656, none, .bi false .mul (.c (.int .i64 10)) (.t 40)⟩,
    ⟨(some 42), 672, none, .mv (.t 0)⟩,
    ⟨(some 43), 688, none, .mv (.t 5)⟩,
    ⟨(some 44), 704, none, .ixs (.t 42) (.t 43)⟩,
    ⟨(some 45), 720, none, .bi false .sub (.t 44) (.c (.int .u8 48))⟩,
    ⟨(some 46), 736, none, .cv false .i64 (.t 45)⟩,
    ⟨(some 47), 752, none, .bi false .add (.t 41) (.t 46)⟩,
    ⟨(some 4), 64, none, .mv (.t 47)⟩])))
  (.reg [⟨(some 28), 448, none, .mv (.t 5)⟩,
    ⟨(some 29), 464, none, .bi false .add (.t 28) (.c (.int .i64 1))⟩,
    ⟨(some 5), 80, none, .mv (.t 29)⟩])))
def c46 : C := (.seq (.reg [⟨(some 2), 32, none, .mv (.c (.int .i64 0))⟩,
    ⟨(some 3), 48, none, .mv (.c (.bool false))⟩])
  (.seq (.seq (.reg [⟨(some 6), 96, none, .mv (.t 0)⟩,
    ⟨(some 7), 112, none, .lens (.t 6)⟩,
    ⟨(some 8), 128, none, .bi false .lss (.t 7) (.c (.int .i64 1))⟩,
    ⟨(some 9), 144, none, .mv (.t 8)⟩,
    ⟨(some 10), 160, (some (9, false)), .mv (.t 0)⟩,
    ⟨(some 11), 176, (some (9, false)), .lens (.t 10)⟩,
    ⟨(some 12), 192, (some (9, false)), .bi false .gtr (.t 11) (.c (.int .i64 8))⟩,
    ⟨(some 13), 208, none, .pick (.t 9) (.c (.bool true)) (.t 12)⟩,
    ⟨(some 14), 224, none, .mv (.t 13)⟩,
    ⟨(some 15), 240, (some (14, false)), .mv (.t 0)⟩,
    ⟨(some 16), 256, (some (14, false)), .lens (.t 15)⟩,
    ⟨(some 17), 272, (some (14, false)), .bi false .gtr (.t 16) (.c (.int .i64 1))⟩,
    ⟨(some 18), 288, (some (14, false)), .mv (.t 17)⟩,
    ⟨(some 19), 304, (some (18, true)), .mv (.t 0)⟩,
    ⟨(some 20), 320, (some (18, true)), .ixs (.t 19) (.c (.int .i64 0))⟩,
    ⟨(some 21), 336, (some (18, true)), .bi false .eql (.t 20) (.c (.int .u8 48))⟩,
    ⟨(some 22), 352, (some (14, false)), .pick (.t 18) (.t 21) (.c (.bool false))⟩,
    ⟨(some 23), 368, none, .pick (.t 14) (.c (.bool true)) (.t 22)⟩])
  (.cond (.t 23) (.seq (.reg [⟨(some 2), 32, none, .mv (.c (.int .i64 0))⟩,
    ⟨(some 3), 48, none, .mv (.c (.bool false))⟩])
  .ret) .skip))
  (.seq (.reg [⟨(some 4), 64, none, .mv (.c (.int .i64 0))⟩])
  (.seq (.seq (.reg [⟨(some 5), 80, none, .mv (.c (.int .i64 0))⟩])
  (.block 0 (.loop c46L1)))
  (.seq (.reg [⟨(some 48), 768, none, .mv (.t 4)⟩,
    ⟨(some 2), 32, none, .mv (.t 48)⟩,
    ⟨(some 3), 48, none, .mv (.c (.bool true))⟩])
  .ret)))))
theorem fits46 : fits Tryd.prog false Tryd.f46 1 49 [(2, none), (3, none)] = some c46.er := by kernel_rfl
def c31 : C := (.seq (.reg [⟨(some 2), 32, none, .al [(.int .i64 0), (.int .i64 0), (.int .i64 0), (.int .i64 0)]⟩,
    ⟨(some 3), 48, none, .mv (.c (.bool false))⟩])
  (.seq (.reg [⟨(some 13), 208, none, .mv (.t 0)⟩,
    ⟨(some 14), 224, none, .call (.c (.fn (.func 30) [] [])) [(.t 13), (.c (.str [32]))]⟩,
    ⟨(some 4), 64, none, .mv (.t 14)⟩])
  (.seq (.seq (.reg [⟨(some 15), 240, none, .mv (.t 4)⟩,
    ⟨(some 16), 256, none, .len (.t 15)⟩,
    ⟨(some 17), 272, none, .bi false .neq (.t 16) (.c (.int .i64 8))⟩,
    ⟨(some 18), 288, none, .mv (.t 17)⟩,
    ⟨(some 19), 304, (some (18, false)), .mv (.t 4)⟩,
    ⟨(some 20), 320, (some (18, false)), .ia 1 (.t 19) (.c (.int .i64 0))⟩,
    ⟨(some 21), 336, (some (18, false)), .ld 1 false (.t 20)⟩,
    ⟨(some 22), 352, (some (18, false)), .bi false .neq (.t 21) (.c (.str [115, 116, 101, 112]))⟩,
    ⟨(some 23), 368, none, .pick (.t 18) (.c (.bool true)) (.t 22)⟩,
    ⟨(some 24), 384, none, .mv (.t 23)⟩,
    ⟨(some 25), 400, (some (24, false)), .mv (.t 4)⟩,
    ⟨(some 26), 416, (some (24, false)), .ia 1 (.t 25) (.c (.int .i64 2))⟩,
    ⟨(some 27), 432, (some (24, false)), .ld 1 false (.t 26)⟩,
    ⟨(some 28), 448, (some (24, false)), .bi false .neq (.t 27) (.c (.str [115, 105, 116, 101]))⟩,
    ⟨(some 29), 464, none, .pick (.t 24) (.c (.bool true)) (.t 28)⟩,
    ⟨(some 30), 480, none, .mv (.t 29)⟩,
    ⟨(some 31), 496, (some (30, false)), .mv (.t 4)⟩,
    ⟨(some 32), 512, (some (30, false)), .ia 1 (.t 31) (.c (.int .i64 4))⟩,
    ⟨(some 33), 528, (some (30, false)), .ld 1 false (.t 32)⟩,
    ⟨(some 34), 544, (some (30, false)), .bi false .neq (.t 33) (.c (.str [99, 111, 110, 100, 105, 116, 105, 111, 110]))⟩,
    ⟨(some 35), 560, none, .pick (.t 30) (.c (.bool true)) (.t 34)⟩,
    ⟨(some 36), 576, none, .mv (.t 35)⟩,
    ⟨(some 37), 592, (some (36, false)), .mv (.t 4)⟩,
    ⟨(some 38), 608, (some (36, false)), .ia 1 (.t 37) (.c (.int .i64 6))⟩,
    ⟨(some 39), 624, (some (36, false)), .ld 1 false (.t 38)⟩,
    ⟨(some 40), 640, (some (36, false)), .bi false .neq (.t 39) (.c (.str [98, 121]))⟩,
    ⟨(some 41), 656, none, .pick (.t 36) (.c (.bool true)) (.t 40)⟩])
  (.cond (.t 41) (.seq (.reg [⟨(some 42), 672, none, .bd [(.int .i64 0), (.int .i64 0), (.int .i64 0), (.int .i64 0)] []⟩,
    ⟨none, 0, none, .st 4 (.t 2) (.t 42)⟩,
    ⟨(some 3), 48, none, .mv (.c (.bool false))⟩])
  .ret) .skip))
  (.seq (.reg [⟨(some 44), 704, none, .mv (.t 4)⟩,
    ⟨(some 45), 720, none, .ia 1 (.t 44) (.c (.int .i64 1))⟩,
    ⟨(some 46), 736, none, .ld 1 false (.t 45)⟩,
    ⟨(some 47), 752, none, .call (.c (.fn (.func 46) [] [])) [(.t 46)]⟩,
    ⟨(some 43), 688, none, .mv (.t 47)⟩,
    ⟨(some 48), 768, none, .ex (.t 43) 0⟩,
    ⟨(some 49), 784, none, .ex (.t 43) 1⟩,
    ⟨(some 5), 80, none, .mv (.t 48)⟩,
    ⟨(some 6), 96, none, .mv (.t 49)⟩])
  (.seq (.reg [⟨(some 51), 816, none, .mv (.t 4)⟩,
    ⟨(some 52), 832, none, .ia 1 (.t 51) (.c (.int .i64 3))⟩,
    ⟨(some 53), 848, none, .ld 1 false (.t 52)⟩,
    ⟨(some 54), 864, none, .call (.c (.fn (.func 46) [] [])) [(.t 53)]⟩,
    ⟨(some 50), 800, none, .mv (.t 54)⟩,
    ⟨(some 55), 880, none, .ex (.t 50) 0⟩,
    ⟨(some 56), 896, none, .ex (.t 50) 1⟩,
    ⟨(some 7), 112, none, .mv (.t 55)⟩,
    ⟨(some 8), 128, none, .mv (.t 56)⟩])
  (.seq (.reg [⟨(some 58), 928, none, .mv (.t 4)⟩,
    ⟨(some 59), 944, none, .ia 1 (.t 58) (.c (.int .i64 5))⟩,
    ⟨(some 60), 960, none, .ld 1 false (.t 59)⟩,
    ⟨(some 61), 976, none, .call (.c (.fn (.func 46) [] [])) [(.t 60)]⟩,
    ⟨(some 57), 912, none, .mv (.t 61)⟩,
    ⟨(some 62), 992, none, .ex (.t 57) 0⟩,
    ⟨(some 63), 1008, none, .ex (.t 57) 1⟩,
    ⟨(some 9), 144, none, .mv (.t 62)⟩,
    ⟨(some 10), 160, none, .mv (.t 63)⟩])
  (.seq (.reg [⟨(some 65), 1040, none, .mv (.t 4)⟩,
    ⟨(some 66), 1056, none, .ia 1 (.t 65) (.c (.int .i64 7))⟩,
    ⟨(some 67), 1072, none, .ld 1 false (.t 66)⟩,
    ⟨(some 68), 1088, none, .call (.c (.fn (.func 46) [] [])) [(.t 67)]⟩,
    ⟨(some 64), 1024, none, .mv (.t 68)⟩,
    ⟨(some 69), 1104, none, .ex (.t 64) 0⟩,
    ⟨(some 70), 1120, none, .ex (.t 64) 1⟩,
    ⟨(some 11), 176, none, .mv (.t 69)⟩,
    ⟨(some 12), 192, none, .mv (.t 70)⟩])
  (.seq (.seq (.reg [⟨(some 71), 1136, none, .mv (.t 4)⟩,
    ⟨(some 72), 1152, none, .ia 1 (.t 71) (.c (.int .i64 7))⟩,
    ⟨(some 73), 1168, none, .ld 1 false (.t 72)⟩])
  (.block 0 (.seq (.reg [⟨(some 75), 1200, none, .bi false .eql (.t 73) (.c (.str [98, 111, 117, 110, 100, 115]))⟩,
    ⟨(some 74), 1184, none, .mv (.t 75)⟩])
  (.cond (.t 74) (.reg [⟨(some 11), 176, none, .mv (.c (.int .i64 (-1)))⟩,
    ⟨(some 12), 192, none, .mv (.c (.bool true))⟩]) (.seq (.reg [⟨(some 77), 1232, none, .bi false .eql (.t 73) (.c (.str [112, 108, 97, 110]))⟩,
    ⟨(some 76), 1216, none, .mv (.t 77)⟩])
  (.cond (.t 76) (.reg [⟨(some 11), 176, none, .mv (.c (.int .i64 (-2)))⟩,
    ⟨(some 12), 192, none, .mv (.c (.bool true))⟩]) .skip))))))
  (.seq (.reg [⟨(some 78), 1248, none, .mv (.t 5)⟩,
    ⟨(some 79), 1264, none, .mv (.t 7)⟩,
    ⟨(some 80), 1280, none, .mv (.t 9)⟩,
    ⟨(some 81), 1296, none, .mv (.t 11)⟩,
    ⟨(some 82), 1312, none, .bd [(.int .i64 0), (.int .i64 0), (.int .i64 0), (.int .i64 0)] [(0, 1, (.t 78)), (1, 1, (.t 79)), (2, 1, (.t 80)), (3, 1, (.t 81))]⟩,
    ⟨(some 83), 1328, none, .mv (.t 6)⟩,
    ⟨(some 84), 1344, none, .mv (.t 83)⟩,
    ⟨(some 85), 1360, (some (84, true)), .mv (.t 8)⟩,
    ⟨(some 86), 1376, none, .pick (.t 84) (.t 85) (.c (.bool false))⟩,
    ⟨(some 87), 1392, none, .mv (.t 86)⟩,
    ⟨(some 88), 1408, (some (87, true)), .mv (.t 10)⟩,
    ⟨(some 89), 1424, none, .pick (.t 87) (.t 88) (.c (.bool false))⟩,
    ⟨(some 90), 1440, none, .mv (.t 89)⟩,
    ⟨(some 91), 1456, (some (90, true)), .mv (.t 12)⟩,
    ⟨(some 92), 1472, none, .pick (.t 90) (.t 91) (.c (.bool false))⟩,
    ⟨none, 0, none, .st 4 (.t 2) (.t 82)⟩,
    ⟨(some 3), 48, none, .mv (.t 92)⟩])
  .ret)))))))))
theorem fits31 : fits Tryd.prog false Tryd.f31 1 93 [(2, some (4, true)), (3, none)] = some c31.er := by kernel_rfl
set_option maxRecDepth 100000 in
set_option maxHeartbeats 8000000 in
theorem call46 (s : List UInt8) (hs : s.length ≤ 4611686018427387904) : PureCall Tryd.prog 46 [.str s] [] ⟨.tup [.int .i64 ((numberF s).getD 0), .bool (numberF s).isSome], [], []⟩ := by
  refine pure_call mix Tryd.func46 fits46 rfl ?_
  conv => whnf
  refine ⟨?_, fun hc => ?_, fun hc => ?_⟩
  · (try conv => whnf)
    (repeat' (first | exact True.intro | exact fun _ h => h | refine inR64_of ?_ ?_ | apply And.intro | refine maxLen_ge ?_)) <;> (first | omega | decide | (dsimp only; omega) | (dsimp only [List.length_cons, List.length_nil]; omega) | (intro hg; rw [hg]; rfl) | (intro hg hh; rw [hg, hh]; rfl) | (intro hg; simp [-List.getD_eq_getElem?_getD, -Int.default_eq_zero] at hg; first | omega | (refine inR64_of ?_ ?_ <;> omega) | (constructor <;> omega)) | (simp [-List.getD_eq_getElem?_getD, -Int.default_eq_zero]; done))
  · simp only [bif_t, bif_f, decide_eq_true_eq, decide_eq_false_iff_not, Bool.not_eq_true', Bool.not_eq_false', Bool.and_eq_true, Bool.or_eq_true, Bool.and_eq_false_iff, Bool.or_eq_false_iff, beq_iff_eq, bne_iff_ne, beq_eq_false_iff_ne, bne_eq_false_iff_eq, reduceCtorEq, false_and, and_false, true_and, and_true, or_false, false_or, or_true, true_or, not_true_eq_false, not_false_eq_true, Int.toNat_zero] at hc
    have hn : numberF s = none := by unfold numberF; rw [if_pos (by omega)]
    rw [hn]
    conv => whnf
    refine ⟨?_, [], ?_⟩
    · (try conv => whnf)
      (repeat' (first | exact True.intro | exact fun _ h => h | refine inR64_of ?_ ?_ | apply And.intro | refine maxLen_ge ?_)) <;> (first | omega | (dsimp only; omega))
    conv => whnf
    refine ⟨rfl, ?_, trivial, trivial⟩
    all_goals repeat' (first | exact True.intro | refine leF_cons rfl ?_ ?_ | refine leS_cons rfl ?_ ?_ | (show PLe _ _ _ _; conv => whnf) | (show SLe _ _ _ _; conv => whnf) | (show PLeL _ _ _ _; conv => whnf) | apply And.intro | rfl | exact Nat.le_refl _ | exact fun _ _ => rfl | exact rowEq0 _ _)
  simp only [bif_t, bif_f, decide_eq_true_eq, decide_eq_false_iff_not, Bool.not_eq_true', Bool.not_eq_false', Bool.and_eq_true, Bool.or_eq_true, Bool.and_eq_false_iff, Bool.or_eq_false_iff, beq_iff_eq, bne_iff_ne, beq_eq_false_iff_ne, bne_eq_false_iff_eq, reduceCtorEq, false_and, and_false, true_and, and_true, or_false, false_or, or_true, true_or, not_true_eq_false, not_false_eq_true, Int.toNat_zero] at hc
  have hn : numberF s = digs 0 s := by unfold numberF; rw [if_neg (by omega)]
  have hl : 1 ≤ s.length ∧ s.length ≤ 8 := by omega
  rw [hn]
  clear hn hc hs
  conv => whnf
  refine ⟨?_, ?_⟩
  · (try conv => whnf)
    (repeat' (first | exact True.intro | exact fun _ h => h | refine inR64_of ?_ ?_ | apply And.intro | refine maxLen_ge ?_)) <;> (first | omega | (dsimp only; omega))
  refine LSem.loop (n := 49) mix (α := Nat × Int) (fun x => x.1 ≤ s.length ∧ digs x.2 (s.drop x.1) = digs 0 s ∧ 0 ≤ x.2 ∧ x.2 < (10 : Int) ^ x.1)
    (fun x => [(0, .str s), (4, .int .i64 x.2), (5, .int .i64 x.1)])
    (fun x => []) (fun x => s.length - x.1) (0, 0) ?_ ?_ ?_
  · exact ⟨Nat.zero_le _, rfl, Int.le_refl _, by decide⟩
  · refine ⟨rfl, rfl, ?_, ?_⟩
    all_goals repeat' (first | exact True.intro | refine leF_cons rfl ?_ ?_ | refine leS_cons rfl ?_ ?_ | (show PLe _ _ _ _; conv => whnf) | (show SLe _ _ _ _; conv => whnf) | (show PLeL _ _ _ _; conv => whnf) | apply And.intro | rfl | exact Nat.le_refl _ | exact fun _ _ => rfl | exact rowEq0 _ _)
  · intro x hx
    obtain ⟨i, a⟩ := x
    obtain ⟨h1, h2, h3, h4⟩ := hx
    dsimp only at h1 h2 h3 h4
    have hj : ((i : Int)).toNat = i := by omega
    have hpow : (10 : Int) ^ i ≤ 10 ^ 13 := (show ∀ i : Nat, i < 14 → (10 : Int) ^ i ≤ 10 ^ 13 by decide) i (by omega)
    have hu1 : IntKind.u8.min = 0 := by decide
    have hu2 : IntKind.u8.max = 255 := by decide
    have hpow2 : (10 : Int) ^ (i + 1) = 10 * 10 ^ i := by rw [Int.pow_succ, Int.mul_comm]
    have hp13 : (10 : Int) ^ 13 = 10000000000000 := by decide
    rw [hp13] at hpow
    conv => whnf
    refine ⟨trivial, fun hc => ?_, fun hc => ?_⟩
    · replace hc := of_decide_eq_true hc
      have hlt : i < s.length := by
        have h : (i : Int) < s.length := hc
        omega
      have hd := digs_drop a hlt
      have hb : (s.getD i 0).toNat < 256 := UInt8.toNat_lt _
      conv => whnf
      refine ⟨?_, fun hc2 => ?_, fun hc2 => ?_⟩
      · (try conv => whnf)
        (repeat' (first | exact True.intro | exact fun _ h => h | refine inR64_of ?_ ?_ | apply And.intro | refine maxLen_ge ?_)) <;> (first | omega | decide | (dsimp only; omega) | (dsimp only [List.length_cons, List.length_nil]; omega) | (intro hg; rw [hg]; rfl) | (intro hg hh; rw [hg, hh]; rfl) | (intro hg; simp [-List.getD_eq_getElem?_getD, -Int.default_eq_zero] at hg; first | omega | (refine inR64_of ?_ ?_ <;> omega) | (constructor <;> omega)) | (simp [-List.getD_eq_getElem?_getD, -Int.default_eq_zero]; done))
      · simp only [bif_t, bif_f, decide_eq_true_eq, decide_eq_false_iff_not, Bool.not_eq_true', Bool.not_eq_false', Bool.and_eq_true, Bool.or_eq_true, Bool.and_eq_false_iff, Bool.or_eq_false_iff, beq_iff_eq, bne_iff_ne, beq_eq_false_iff_ne, bne_eq_false_iff_eq, reduceCtorEq, false_and, and_false, true_and, and_true, or_false, false_or, or_true, true_or, not_true_eq_false, not_false_eq_true, Int.toNat_zero] at hc2
        rw [hj] at hc2
        have hd0 : digs 0 s = none := by rw [← h2, hd, if_pos (by omega)]
        rw [hd0]
        conv => whnf
        refine ⟨?_, [], ?_⟩
        · (try conv => whnf)
          (repeat' (first | exact True.intro | exact fun _ h => h | refine inR64_of ?_ ?_ | apply And.intro | refine maxLen_ge ?_)) <;> (first | omega | (dsimp only; omega))
        conv => whnf
        refine ⟨rfl, ?_, trivial, trivial⟩
        all_goals repeat' (first | exact True.intro | refine leF_cons rfl ?_ ?_ | refine leS_cons rfl ?_ ?_ | (show PLe _ _ _ _; conv => whnf) | (show SLe _ _ _ _; conv => whnf) | (show PLeL _ _ _ _; conv => whnf) | apply And.intro | rfl | exact Nat.le_refl _ | exact fun _ _ => rfl | exact rowEq0 _ _)
      · simp only [bif_t, bif_f, decide_eq_true_eq, decide_eq_false_iff_not, Bool.not_eq_true', Bool.not_eq_false', Bool.and_eq_true, Bool.or_eq_true, Bool.and_eq_false_iff, Bool.or_eq_false_iff, beq_iff_eq, bne_iff_ne, beq_eq_false_iff_ne, bne_eq_false_iff_eq, reduceCtorEq, false_and, and_false, true_and, and_true, or_false, false_or, or_true, true_or, not_true_eq_false, not_false_eq_true, Int.toNat_zero] at hc2
        rw [hj] at hc2
        rw [if_neg (by omega)] at hd
        conv => whnf
        refine ⟨?_, (i + 1, 10 * a + (((s.getD i 0).toNat : Int) - 48)), ⟨hlt, by rw [← hd]; exact h2, ?_, ?_⟩, ?_, rfl, rfl, ?_, ?_⟩
        · (try conv => whnf)
          rw [hj]
          (repeat' (first | exact True.intro | exact fun _ h => h | refine inR64_of ?_ ?_ | apply And.intro)) <;> (first | omega | (rw [hu1]; omega) | (rw [hu2]; omega))
        · dsimp only; omega
        · dsimp only; rw [hpow2]; omega
        · dsimp only; omega
        all_goals repeat' (first | exact True.intro | refine leF_cons rfl ?_ ?_ | refine leS_cons rfl ?_ ?_ | (show PLe _ _ _ _; conv => whnf) | (show SLe _ _ _ _; conv => whnf) | (show PLeL _ _ _ _; conv => whnf) | apply And.intro | rfl | exact Nat.le_refl _ | exact fun _ _ => rfl | exact rowEq0 _ _)
        all_goals first | omega | (rw [hj]; done) | skip
    · replace hc := of_decide_eq_false hc
      have hk : i = s.length := by
        have h : ¬ (i : Int) < s.length := hc
        omega
      subst hk
      rw [← h2, List.drop_length]
      conv => whnf
      refine ⟨?_, [], ?_⟩
      · (try conv => whnf)
        (repeat' (first | exact True.intro | exact fun _ h => h | refine inR64_of ?_ ?_ | apply And.intro | refine maxLen_ge ?_)) <;> (first | omega | (dsimp only; omega))
      conv => whnf
      refine ⟨rfl, ?_, trivial, trivial⟩
      all_goals repeat' (first | exact True.intro | refine leF_cons rfl ?_ ?_ | refine leS_cons rfl ?_ ?_ | (show PLe _ _ _ _; conv => whnf) | (show SLe _ _ _ _; conv => whnf) | (show PLeL _ _ _ _; conv => whnf) | apply And.intro | rfl | exact Nat.le_refl _ | exact fun _ _ => rfl | exact rowEq0 _ _)
def wStep : List UInt8 := [115, 116, 101, 112]
def wSite : List UInt8 := [115, 105, 116, 101]
def wCond : List UInt8 := [99, 111, 110, 100, 105, 116, 105, 111, 110]
def wBy : List UInt8 := [98, 121]
def wBounds : List UInt8 := [98, 111, 117, 110, 100, 115]
def wPlan : List UInt8 := [112, 108, 97, 110]
def badW (w : List (List UInt8)) : Prop := w.length ≠ 8 ∨ w.getD 0 default ≠ wStep ∨ w.getD 2 default ≠ wSite ∨ w.getD 4 default ≠ wCond ∨ w.getD 6 default ≠ wBy
instance (w : List (List UInt8)) : Decidable (badW w) := by unfold badW; infer_instance
theorem badW_iff {L : List (List UInt8)} {b : Bool} (h : (bif bif bif bif ((L.length : Int) != 8) then true else !(L.getD (Int.toNat 0) default == [115, 116, 101, 112]) then true
            else !(L.getD (Int.toNat 2) default == [115, 105, 116, 101]) then true else !(L.getD (Int.toNat 4) default == [99, 111, 110, 100, 105, 116, 105, 111, 110]) then true else !(L.getD (Int.toNat 6) default == [98, 121])) = b) : badW L ↔ b = true := by
  subst h
  have e : ((L.length : Int) != 8) = decide (L.length ≠ 8) := by
    by_cases h : L.length = 8
    · rw [h]; rfl
    · rw [decide_eq_true h]; exact bne_iff_ne.2 (by omega)
  rw [e, show Int.toNat 0 = 0 from rfl, show Int.toNat 2 = 2 from rfl, show Int.toNat 4 = 4 from rfl, show Int.toNat 6 = 6 from rfl]
  unfold badW wStep wSite wCond wBy
  generalize L.getD 0 default = x0
  generalize L.getD 2 default = x2
  generalize L.getD 4 default = x4
  generalize L.getD 6 default = x6
  simp only [Bool.cond_true_left, Bool.or_eq_true, Bool.not_eq_true', beq_eq_false_iff_ne, decide_eq_true_eq]
  simp only [or_assoc]
def nW (w : List (List UInt8)) (k : Nat) : Int := (numberF (w.getD k default)).getD 0
def isW (w : List (List UInt8)) (k : Nat) : Bool := (numberF (w.getD k default)).isSome
def byN (s : List UInt8) : Int := if s = wBounds then -1 else if s = wPlan then -2 else (numberF s).getD 0
def byI (s : List UInt8) : Bool := if s = wBounds then true else if s = wPlan then true else (numberF s).isSome
def lineW (w : List (List UInt8)) : Vi × Bool := if badW w then (vi0, false) else
  (⟨nW w 1, nW w 3, nW w 5, byN (w.getD 7 default)⟩, bif (bif (bif isW w 1 then isW w 3 else false) then isW w 5 else false) then byI (w.getD 7 default) else false)
set_option maxRecDepth 100000 in
set_option maxHeartbeats 8000000 in
theorem call31 (s : List UInt8) (hs : s.length < 4294967281) : PureCall Tryd.prog 31 [.str s] [] ⟨.tup [.agg (eVi (lineW (splitC 32 s)).1), .bool (lineW (splitC 32 s)).2], [], []⟩ := by
  refine pure_call mix Tryd.func31 fits31 rfl ?_
  conv => whnf
  refine ⟨_, fun _ => call30 s 32 hs, ?_⟩
  have hL1 := splitC_len 32 s
  have hLs : ∀ k, k < (splitC 32 s).length → ((splitC 32 s).getD k default).length ≤ 4611686018427387904 := fun k hk => by
    have := hL1.2 _ (getD_mem hk); omega
  clear hL1
  generalize splitC 32 s = L at hLs ⊢
  conv => whnf
  refine ⟨?_, fun hc => ?_, fun hc => ?_⟩
  · (try conv => whnf)
    (repeat' (first | exact True.intro | exact fun _ h => h | refine inR64_of ?_ ?_ | apply And.intro | refine maxLen_ge ?_)) <;> (first | omega | decide | (dsimp only; omega) | (dsimp only [List.length_cons, List.length_nil]; omega) | (intro hg; rw [hg]; rfl) | (intro hg hh; rw [hg, hh]; rfl) | (intro hg; simp [-List.getD_eq_getElem?_getD, -Int.default_eq_zero] at hg; first | omega | (refine inR64_of ?_ ?_ <;> omega) | (constructor <;> omega)) | (simp [-List.getD_eq_getElem?_getD, -Int.default_eq_zero]; done))
  · have hb : badW L := (badW_iff hc).2 rfl
    rw [show lineW L = (vi0, false) by unfold lineW; rw [if_pos hb]]
    conv => whnf
    refine ⟨?_, [], ?_⟩
    · (try conv => whnf)
      (repeat' (first | exact True.intro | exact fun _ h => h | refine inR64_of ?_ ?_ | apply And.intro | refine maxLen_ge ?_)) <;> (first | omega | (dsimp only; omega))
    conv => whnf
    refine ⟨rfl, ?_, trivial, trivial⟩
    all_goals repeat' (first | exact True.intro | refine leF_cons rfl ?_ ?_ | refine leS_cons rfl ?_ ?_ | (show PLe _ _ _ _; conv => whnf) | (show SLe _ _ _ _; conv => whnf) | (show PLeL _ _ _ _; conv => whnf) | apply And.intro | rfl | exact Nat.le_refl _ | exact fun _ _ => rfl | exact rowEq0 _ _)
  have hb : ¬ badW L := fun h => absurd ((badW_iff hc).1 h) (by decide)
  have hl : L.length = 8 := Classical.byContradiction fun h => hb (.inl h)
  rw [show lineW L = (⟨nW L 1, nW L 3, nW L 5, byN (L.getD 7 default)⟩, bif (bif (bif isW L 1 then isW L 3 else false) then isW L 5 else false) then byI (L.getD 7 default) else false) by unfold lineW; rw [if_neg hb]]
  clear hb hc
  have h1 := hLs 1 (by omega)
  have h3 := hLs 3 (by omega)
  have h5 := hLs 5 (by omega)
  have h7 := hLs 7 (by omega)
  conv => whnf
  refine ⟨_, fun _ => call46 (L.getD 1 default) h1, ?_⟩
  conv => whnf
  refine ⟨_, fun _ => call46 (L.getD 3 default) h3, ?_⟩
  conv => whnf
  refine ⟨_, fun _ => call46 (L.getD 5 default) h5, ?_⟩
  conv => whnf
  refine ⟨_, fun _ => call46 (L.getD 7 default) h7, ?_⟩
  conv => whnf
  refine ⟨?_, fun hb => ?_, fun hb => ?_⟩
  · (try conv => whnf)
    (repeat' (first | exact True.intro | exact fun _ h => h | refine inR64_of ?_ ?_ | apply And.intro | refine maxLen_ge ?_)) <;> (first | omega | (dsimp only; omega))
  · have hb : L.getD 7 default = wBounds := beq_iff_eq.1 hb
    rw [show byN (L.getD 7 default) = -1 by unfold byN; rw [if_pos hb], show byI (L.getD 7 default) = true by unfold byI; rw [if_pos hb]]
    conv => whnf
    refine ⟨?_, [], ?_⟩
    · (try conv => whnf)
      (repeat' (first | exact True.intro | exact fun _ h => h | refine inR64_of ?_ ?_ | apply And.intro | refine maxLen_ge ?_)) <;> (first | omega | decide | (dsimp only; omega) | (dsimp only [List.length_cons, List.length_nil]; omega) | (intro hg; rw [hg]; rfl) | (intro hg hh; rw [hg, hh]; rfl) | (intro hg; simp [-List.getD_eq_getElem?_getD, -Int.default_eq_zero] at hg; first | omega | (refine inR64_of ?_ ?_ <;> omega) | (constructor <;> omega)) | (simp [-List.getD_eq_getElem?_getD, -Int.default_eq_zero]; done))
    conv => whnf
    refine ⟨rfl, ?_, trivial, trivial⟩
    all_goals repeat' (first | exact True.intro | refine leF_cons rfl ?_ ?_ | refine leS_cons rfl ?_ ?_ | (show PLe _ _ _ _; conv => whnf) | (show SLe _ _ _ _; conv => whnf) | (show PLeL _ _ _ _; conv => whnf) | apply And.intro | rfl | exact Nat.le_refl _ | exact fun _ _ => rfl | exact rowEq0 _ _)
  have hb1 : L.getD 7 default ≠ wBounds := beq_eq_false_iff_ne.1 hb
  conv => whnf
  refine ⟨?_, fun hb => ?_, fun hb => ?_⟩
  · (try conv => whnf)
    (repeat' (first | exact True.intro | exact fun _ h => h | refine inR64_of ?_ ?_ | apply And.intro | refine maxLen_ge ?_)) <;> (first | omega | (dsimp only; omega))
  · have hb : L.getD 7 default = wPlan := beq_iff_eq.1 hb
    rw [show byN (L.getD 7 default) = -2 by unfold byN; rw [if_neg hb1, if_pos hb], show byI (L.getD 7 default) = true by unfold byI; rw [if_neg hb1, if_pos hb]]
    conv => whnf
    refine ⟨?_, [], ?_⟩
    · (try conv => whnf)
      (repeat' (first | exact True.intro | exact fun _ h => h | refine inR64_of ?_ ?_ | apply And.intro | refine maxLen_ge ?_)) <;> (first | omega | decide | (dsimp only; omega) | (dsimp only [List.length_cons, List.length_nil]; omega) | (intro hg; rw [hg]; rfl) | (intro hg hh; rw [hg, hh]; rfl) | (intro hg; simp [-List.getD_eq_getElem?_getD, -Int.default_eq_zero] at hg; first | omega | (refine inR64_of ?_ ?_ <;> omega) | (constructor <;> omega)) | (simp [-List.getD_eq_getElem?_getD, -Int.default_eq_zero]; done))
    conv => whnf
    refine ⟨rfl, ?_, trivial, trivial⟩
    all_goals repeat' (first | exact True.intro | refine leF_cons rfl ?_ ?_ | refine leS_cons rfl ?_ ?_ | (show PLe _ _ _ _; conv => whnf) | (show SLe _ _ _ _; conv => whnf) | (show PLeL _ _ _ _; conv => whnf) | apply And.intro | rfl | exact Nat.le_refl _ | exact fun _ _ => rfl | exact rowEq0 _ _)
  have hb2 : L.getD 7 default ≠ wPlan := beq_eq_false_iff_ne.1 hb
  rw [show byN (L.getD 7 default) = nW L 7 by unfold byN; rw [if_neg hb1, if_neg hb2]; rfl, show byI (L.getD 7 default) = isW L 7 by unfold byI; rw [if_neg hb1, if_neg hb2]; rfl]
  conv => whnf
  refine ⟨?_, [], ?_⟩
  · (try conv => whnf)
    (repeat' (first | exact True.intro | exact fun _ h => h | refine inR64_of ?_ ?_ | apply And.intro | refine maxLen_ge ?_)) <;> (first | omega | decide | (dsimp only; omega) | (dsimp only [List.length_cons, List.length_nil]; omega) | (intro hg; rw [hg]; rfl) | (intro hg hh; rw [hg, hh]; rfl) | (intro hg; simp [-List.getD_eq_getElem?_getD, -Int.default_eq_zero] at hg; first | omega | (refine inR64_of ?_ ?_ <;> omega) | (constructor <;> omega)) | (simp [-List.getD_eq_getElem?_getD, -Int.default_eq_zero]; done))
  conv => whnf
  refine ⟨rfl, ?_, trivial, trivial⟩
  all_goals repeat' (first | exact True.intro | refine leF_cons rfl ?_ ?_ | refine leS_cons rfl ?_ ?_ | (show PLe _ _ _ _; conv => whnf) | (show SLe _ _ _ _; conv => whnf) | (show PLeL _ _ _ _; conv => whnf) | apply And.intro | rfl | exact Nat.le_refl _ | exact fun _ _ => rfl | exact rowEq0 _ _)
end Pv
end Go.Proofs.YtafnkpmoolbjjaaDoor
/- LAW 42, THE WALKS: a line of a text, by pointers to what is read. -/
set_option linter.unusedSimpArgs false
set_option linter.unusedVariables false
namespace Go.Proofs.YtafnkpmoolbjjaaDoor
namespace Pv
def c29L1 : C := (.seq (.reg [⟨(some 48), 768, none, .bi false .lss (.t 47) (.t 46)⟩])
  (.seq (.cond (.t 48) .skip (.exit 0))
  (.seq (.block 1 (.seq (.reg [⟨(some 49), 784, none, .mv (.t 47)⟩,
    ⟨(some 50), 800, none, .ia 1 (.t 45) (.t 47)⟩,
    ⟨(some 51), 816, none, .ld 1 false (.t 50)⟩,
    ⟨(some 7), 112, none, .mv (.t 49)⟩,
    ⟨(some 8), 128, none, .mv (.t 51)⟩])
  (.block 2 (.seq (.reg [⟨(some 70), 1120, none, .mv (.t 7)⟩,
    ⟨(some 71), 1136, none, .bi false .eql (.t 70) (.c (.int .i64 3))⟩,
    ⟨(some 72), 1152, none, .mv (.t 71)⟩,
    ⟨(some 73), 1168, (some (72, true)), .mv (.t 5)⟩,
    ⟨(some 74), 1184, (some (72, true)), .ia 1 (.t 73) (.c (.int .i64 7))⟩,
    ⟨(some 75), 1200, (some (72, true)), .ld 1 false (.t 74)⟩,
    ⟨(some 76), 1216, (some (72, true)), .bi false .eql (.t 75) (.c (.str [98, 111, 117, 110, 100, 115]))⟩,
    ⟨(some 77), 1232, none, .pick (.t 72) (.t 76) (.c (.bool false))⟩,
    ⟨(some 69), 1104, none, .mv (.t 77)⟩])
  (.cond (.t 69) (.reg [⟨(some 78), 1248, none, .mv (.t 8)⟩,
    ⟨(some 79), 1264, none, .nc (.t 78)⟩,
    ⟨none, 0, none, .st 1 (.t 79) (.c (.int .i64 (-1)))⟩]) (.seq (.reg [⟨(some 81), 1296, none, .mv (.t 7)⟩,
    ⟨(some 82), 1312, none, .bi false .eql (.t 81) (.c (.int .i64 3))⟩,
    ⟨(some 83), 1328, none, .mv (.t 82)⟩,
    ⟨(some 84), 1344, (some (83, true)), .mv (.t 5)⟩,
    ⟨(some 85), 1360, (some (83, true)), .ia 1 (.t 84) (.c (.int .i64 7))⟩,
    ⟨(some 86), 1376, (some (83, true)), .ld 1 false (.t 85)⟩,
    ⟨(some 87), 1392, (some (83, true)), .bi false .eql (.t 86) (.c (.str [112, 108, 97, 110]))⟩,
    ⟨(some 88), 1408, none, .pick (.t 83) (.t 87) (.c (.bool false))⟩,
    ⟨(some 80), 1280, none, .mv (.t 88)⟩])
  (.cond (.t 80) (.reg [⟨(some 89), 1424, none, .mv (.t 8)⟩,
    ⟨(some 90), 1440, none, .nc (.t 89)⟩,
    ⟨none, 0, none, .st 1 (.t 90) (.c (.int .i64 (-2)))⟩]) (.seq (.reg [⟨(some 53), 848, none, .mv (.t 5)⟩,
    ⟨(some 54), 864, none, .mv (.t 7)⟩,
    ⟨(some 55), 880, none, .bi false .mul (.c (.int .i64 2)) (.t 54)⟩,
    ⟨(some 56), 896, none, .bi false .add (.t 55) (.c (.int .i64 1))⟩,
    ⟨(some 57), 912, none, .ia 1 (.t 53) (.t 56)⟩,
    ⟨(some 58), 928, none, .ld 1 false (.t 57)⟩,
    ⟨(some 59), 944, none, .call (.c (.fn (.func 44) [] [])) [(.t 58)]⟩,
    ⟨(some 52), 832, none, .mv (.t 59)⟩,
    ⟨(some 60), 960, none, .ex (.t 52) 0⟩,
    ⟨(some 61), 976, none, .ex (.t 52) 1⟩,
    ⟨(some 9), 144, none, .mv (.t 60)⟩,
    ⟨(some 10), 160, none, .mv (.t 61)⟩])
  (.reg [⟨(some 62), 992, none, .mv (.t 8)⟩,
    ⟨(some 63), 1008, none, .mv (.t 9)⟩,
    ⟨(some 64), 1024, none, .mv (.t 6)⟩,
    ⟨(some 65), 1040, none, .mv (.t 64)⟩,
    ⟨(some 66), 1056, (some (65, true)), .mv (.t 10)⟩,
    ⟨(some 67), 1072, none, .pick (.t 65) (.t 66) (.c (.bool false))⟩,
    ⟨(some 68), 1088, none, .nc (.t 62)⟩,
    ⟨none, 0, none, .st 1 (.t 68) (.t 63)⟩,
    ⟨(some 6), 96, none, .mv (.t 67)⟩])))))))))
  (.reg [⟨(some 91), 1456, none, .bi false .add (.t 47) (.c (.int .i64 1))⟩,
    ⟨(some 47), 752, none, .mv (.t 91)⟩]))))
def c29 : C := (.seq (.reg [⟨(some 2), 32, none, .al [(.int .i64 0), (.int .i64 0), (.int .i64 0), (.int .i64 0)]⟩,
    ⟨(some 3), 48, none, .mv (.c (.bool false))⟩])
  (.seq (.reg [⟨(some 4), 64, none, .al [(.int .i64 0), (.int .i64 0), (.int .i64 0), (.int .i64 0)]⟩])
  (.seq (.reg [⟨(some 11), 176, none, .mv (.t 0)⟩,
    ⟨(some 12), 192, none, .call (.c (.fn (.func 30) [] [])) [(.t 11), (.c (.str [32]))]⟩,
    ⟨(some 5), 80, none, .mv (.t 12)⟩])
  (.seq (.seq (.reg [⟨(some 13), 208, none, .mv (.t 5)⟩,
    ⟨(some 14), 224, none, .len (.t 13)⟩,
    ⟨(some 15), 240, none, .bi false .neq (.t 14) (.c (.int .i64 8))⟩,
    ⟨(some 16), 256, none, .mv (.t 15)⟩,
    ⟨(some 17), 272, (some (16, false)), .mv (.t 5)⟩,
    ⟨(some 18), 288, (some (16, false)), .ia 1 (.t 17) (.c (.int .i64 0))⟩,
    ⟨(some 19), 304, (some (16, false)), .ld 1 false (.t 18)⟩,
    ⟨(some 20), 320, (some (16, false)), .bi false .neq (.t 19) (.c (.str [115, 116, 101, 112]))⟩,
    ⟨(some 21), 336, none, .pick (.t 16) (.c (.bool true)) (.t 20)⟩,
    ⟨(some 22), 352, none, .mv (.t 21)⟩,
    ⟨(some 23), 368, (some (22, false)), .mv (.t 5)⟩,
    ⟨(some 24), 384, (some (22, false)), .ia 1 (.t 23) (.c (.int .i64 2))⟩,
    ⟨(some 25), 400, (some (22, false)), .ld 1 false (.t 24)⟩,
    ⟨(some 26), 416, (some (22, false)), .bi false .neq (.t 25) (.c (.str [115, 105, 116, 101]))⟩,
    ⟨(some 27), 432, none, .pick (.t 22) (.c (.bool true)) (.t 26)⟩,
    ⟨(some 28), 448, none, .mv (.t 27)⟩,
    ⟨(some 29), 464, (some (28, false)), .mv (.t 5)⟩,
    ⟨(some 30), 480, (some (28, false)), .ia 1 (.t 29) (.c (.int .i64 4))⟩,
    ⟨(some 31), 496, (some (28, false)), .ld 1 false (.t 30)⟩,
    ⟨(some 32), 512, (some (28, false)), .bi false .neq (.t 31) (.c (.str [99, 111, 110, 100, 105, 116, 105, 111, 110]))⟩,
    ⟨(some 33), 528, none, .pick (.t 28) (.c (.bool true)) (.t 32)⟩,
    ⟨(some 34), 544, none, .mv (.t 33)⟩,
    ⟨(some 35), 560, (some (34, false)), .mv (.t 5)⟩,
    ⟨(some 36), 576, (some (34, false)), .ia 1 (.t 35) (.c (.int .i64 6))⟩,
    ⟨(some 37), 592, (some (34, false)), .ld 1 false (.t 36)⟩,
    ⟨(some 38), 608, (some (34, false)), .bi false .neq (.t 37) (.c (.str [98, 121]))⟩,
    ⟨(some 39), 624, none, .pick (.t 34) (.c (.bool true)) (.t 38)⟩])
  (.cond (.t 39) (.seq (.reg [⟨(some 40), 640, none, .ld 4 true (.t 4)⟩,
    ⟨none, 0, none, .st 4 (.t 2) (.t 40)⟩,
    ⟨(some 3), 48, none, .mv (.c (.bool false))⟩])
  .ret) .skip))
  (.seq (.reg [⟨(some 6), 96, none, .mv (.c (.bool true))⟩])
  (.seq (.seq (.reg [⟨(some 41), 656, none, .fa 0 (.t 4)⟩,
    ⟨(some 42), 672, none, .fa 1 (.t 4)⟩,
    ⟨(some 43), 688, none, .fa 2 (.t 4)⟩,
    ⟨(some 44), 704, none, .fa 3 (.t 4)⟩,
    ⟨(some 45), 720, none, .bsx 1 [(.t 41), (.t 42), (.t 43), (.t 44)]⟩,
    ⟨(some 46), 736, none, .len (.t 45)⟩,
    ⟨(some 47), 752, none, .mv (.c (.int .i64 0))⟩])
  (.block 0 (.loop c29L1)))
  (.seq (.reg [⟨(some 92), 1472, none, .ld 4 true (.t 4)⟩,
    ⟨(some 93), 1488, none, .mv (.t 6)⟩,
    ⟨none, 0, none, .st 4 (.t 2) (.t 92)⟩,
    ⟨(some 3), 48, none, .mv (.t 93)⟩])
  .ret)))))))
theorem fits29 : fits Tryd.prog false Tryd.f29 1 94 [(2, some (4, true)), (3, none)] = some c29.er := by kernel_rfl
def vJ (L : List (List UInt8)) : Nat → Vi
  | 0 => ⟨0, 0, 0, 0⟩
  | 1 => ⟨nW L 1, 0, 0, 0⟩
  | 2 => ⟨nW L 1, nW L 3, 0, 0⟩
  | 3 => ⟨nW L 1, nW L 3, nW L 5, 0⟩
  | _ => ⟨nW L 1, nW L 3, nW L 5, byN (L.getD 7 default)⟩
def okJ (L : List (List UInt8)) : Nat → Bool
  | 0 => true
  | 1 => isW L 1
  | 2 => bif isW L 1 then isW L 3 else false
  | 3 => bif (bif isW L 1 then isW L 3 else false) then isW L 5 else false
  | _ => bif (bif (bif isW L 1 then isW L 3 else false) then isW L 5 else false) then byI (L.getD 7 default) else false
set_option maxRecDepth 100000 in
set_option maxHeartbeats 8000000 in
theorem call29 (s : List UInt8) (hs : s.length < 4294967281) : PureCall Tryd.prog 29 [.str s] [] ⟨.tup [.agg (eVi (lineW (splitC 32 s)).1), .bool (lineW (splitC 32 s)).2], [], []⟩ := by
  refine pure_call mix Tryd.func29 fits29 rfl ?_
  conv => whnf
  refine ⟨_, fun _ => call30 s 32 hs, ?_⟩
  have hL1 := splitC_len 32 s
  have hLs : ∀ k, k < (splitC 32 s).length → ((splitC 32 s).getD k default).length ≤ 4611686018427387904 := fun k hk => by
    have := hL1.2 _ (getD_mem hk); omega
  clear hL1
  generalize splitC 32 s = L at hLs ⊢
  conv => whnf
  refine ⟨?_, fun hc => ?_, fun hc => ?_⟩
  · (try conv => whnf)
    (repeat' (first | exact True.intro | exact fun _ h => h | refine inR64_of ?_ ?_ | apply And.intro | refine maxLen_ge ?_)) <;> (first | omega | decide | (dsimp only; omega) | (dsimp only [List.length_cons, List.length_nil]; omega) | (intro hg; rw [hg]; rfl) | (intro hg hh; rw [hg, hh]; rfl) | (intro hg; simp [-List.getD_eq_getElem?_getD, -Int.default_eq_zero] at hg; first | omega | (refine inR64_of ?_ ?_ <;> omega) | (constructor <;> omega)) | (simp [-List.getD_eq_getElem?_getD, -Int.default_eq_zero]; done))
  · have hb : badW L := (badW_iff hc).2 rfl
    rw [show lineW L = (vi0, false) by unfold lineW; rw [if_pos hb]]
    conv => whnf
    refine ⟨?_, [], ?_⟩
    · (try conv => whnf)
      (repeat' (first | exact True.intro | exact fun _ h => h | refine inR64_of ?_ ?_ | apply And.intro | refine maxLen_ge ?_)) <;> (first | omega | (dsimp only; omega))
    conv => whnf
    refine ⟨rfl, ?_, trivial, trivial⟩
    all_goals repeat' (first | exact True.intro | refine leF_cons rfl ?_ ?_ | refine leS_cons rfl ?_ ?_ | (show PLe _ _ _ _; conv => whnf) | (show SLe _ _ _ _; conv => whnf) | (show PLeL _ _ _ _; conv => whnf) | apply And.intro | rfl | exact Nat.le_refl _ | exact fun _ _ => rfl | exact rowEq0 _ _)
  have hb : ¬ badW L := fun h => absurd ((badW_iff hc).1 h) (by decide)
  have hl : L.length = 8 := Classical.byContradiction fun h => hb (.inl h)
  rw [show lineW L = (vJ L 4, okJ L 4) by unfold lineW; rw [if_neg hb]; rfl]
  clear hb hc
  have h1 := hLs 1 (by omega)
  have h3 := hLs 3 (by omega)
  have h5 := hLs 5 (by omega)
  have h7 := hLs 7 (by omega)
  conv => whnf
  refine ⟨?_, ?_⟩
  · (try conv => whnf)
    (repeat' (first | exact True.intro | exact fun _ h => h | refine inR64_of ?_ ?_ | apply And.intro | refine maxLen_ge ?_)) <;> (first | omega | (dsimp only; omega))
  refine LSem.loop (n := 94) mix (α := Nat) (fun j => j ≤ 4)
    (fun j => [(2, .pt 32 0 0), (4, .pt 64 0 0), (5, .os 192), (6, .bool (okJ L j)), (45, .rf (some (1, 4)) 720), (46, .int .i64 4), (47, .int .i64 j)])
    (fun j => [(32, .box [.int .i64 0, .int .i64 0, .int .i64 0, .int .i64 0]), (64, .box (eVi (vJ L j))), (192, .row 0 9 1 L.length (fl eStr L)), (720, .box [.pt 64 0 0, .pt 64 0 1, .pt 64 0 2, .pt 64 0 3])]) (fun j => 4 - j) 0 ?_ ?_ ?_
  · exact Nat.zero_le _
  · refine ⟨rfl, rfl, ?_, ?_⟩
    all_goals repeat' (first | exact True.intro | refine leF_cons rfl ?_ ?_ | refine leS_cons rfl ?_ ?_ | (show PLe _ _ _ _; conv => whnf) | (show SLe _ _ _ _; conv => whnf) | (show PLeL _ _ _ _; conv => whnf) | apply And.intro | rfl | exact Nat.le_refl _ | exact fun _ _ => rfl | exact rowEq0 _ _)
  · intro j hj
    have h01234 : j = 0 ∨ j = 1 ∨ j = 2 ∨ j = 3 ∨ j = 4 := by omega
    rcases h01234 with rfl | rfl | rfl | rfl | rfl
    · conv => whnf
      refine ⟨trivial, fun hc => ?_, fun hc => (by cases hc)⟩
      conv => whnf
      refine ⟨?_, fun h => (by cases h), fun h => ?_⟩
      · (try conv => whnf)
        (repeat' (first | exact True.intro | exact fun _ h => h | refine inR64_of ?_ ?_ | apply And.intro | refine maxLen_ge ?_)) <;> (first | omega | decide | (dsimp only; omega) | (dsimp only [List.length_cons, List.length_nil]; omega) | (intro hg; rw [hg]; rfl) | (intro hg hh; rw [hg, hh]; rfl) | (intro hg; simp [-List.getD_eq_getElem?_getD, -Int.default_eq_zero] at hg; first | omega | (refine inR64_of ?_ ?_ <;> omega) | (constructor <;> omega)) | (simp [-List.getD_eq_getElem?_getD, -Int.default_eq_zero]; done))
      conv => whnf
      refine ⟨?_, fun h => (by cases h), fun h => ?_⟩
      · (try conv => whnf)
        (repeat' (first | exact True.intro | exact fun _ h => h | refine inR64_of ?_ ?_ | apply And.intro | refine maxLen_ge ?_)) <;> (first | omega | decide | (dsimp only; omega) | (dsimp only [List.length_cons, List.length_nil]; omega) | (intro hg; rw [hg]; rfl) | (intro hg hh; rw [hg, hh]; rfl) | (intro hg; simp [-List.getD_eq_getElem?_getD, -Int.default_eq_zero] at hg; first | omega | (refine inR64_of ?_ ?_ <;> omega) | (constructor <;> omega)) | (simp [-List.getD_eq_getElem?_getD, -Int.default_eq_zero]; done))
      conv => whnf
      refine ⟨_, fun _ => call44 (L.getD 1 default) h1, ?_⟩
      conv => whnf
      refine ⟨?_, 1, by omega, by omega, rfl, rfl, ?_, ?_⟩
      · (try conv => whnf)
        (repeat' (first | exact True.intro | exact fun _ h => h | refine inR64_of ?_ ?_ | apply And.intro | refine maxLen_ge ?_)) <;> (first | omega | decide | (dsimp only; omega) | (dsimp only [List.length_cons, List.length_nil]; omega) | (intro hg; rw [hg]; rfl) | (intro hg hh; rw [hg, hh]; rfl) | (intro hg; simp [-List.getD_eq_getElem?_getD, -Int.default_eq_zero] at hg; first | omega | (refine inR64_of ?_ ?_ <;> omega) | (constructor <;> omega)) | (simp [-List.getD_eq_getElem?_getD, -Int.default_eq_zero]; done))
      all_goals repeat' (first | exact True.intro | refine leF_cons rfl ?_ ?_ | refine leS_cons rfl ?_ ?_ | (show PLe _ _ _ _; conv => whnf) | (show SLe _ _ _ _; conv => whnf) | (show PLeL _ _ _ _; conv => whnf) | apply And.intro | rfl | exact Nat.le_refl _ | exact fun _ _ => rfl | exact rowEq0 _ _)
      all_goals first | omega | skip
    · conv => whnf
      refine ⟨trivial, fun hc => ?_, fun hc => (by cases hc)⟩
      conv => whnf
      refine ⟨?_, fun h => (by cases h), fun h => ?_⟩
      · (try conv => whnf)
        (repeat' (first | exact True.intro | exact fun _ h => h | refine inR64_of ?_ ?_ | apply And.intro | refine maxLen_ge ?_)) <;> (first | omega | decide | (dsimp only; omega) | (dsimp only [List.length_cons, List.length_nil]; omega) | (intro hg; rw [hg]; rfl) | (intro hg hh; rw [hg, hh]; rfl) | (intro hg; simp [-List.getD_eq_getElem?_getD, -Int.default_eq_zero] at hg; first | omega | (refine inR64_of ?_ ?_ <;> omega) | (constructor <;> omega)) | (simp [-List.getD_eq_getElem?_getD, -Int.default_eq_zero]; done))
      conv => whnf
      refine ⟨?_, fun h => (by cases h), fun h => ?_⟩
      · (try conv => whnf)
        (repeat' (first | exact True.intro | exact fun _ h => h | refine inR64_of ?_ ?_ | apply And.intro | refine maxLen_ge ?_)) <;> (first | omega | decide | (dsimp only; omega) | (dsimp only [List.length_cons, List.length_nil]; omega) | (intro hg; rw [hg]; rfl) | (intro hg hh; rw [hg, hh]; rfl) | (intro hg; simp [-List.getD_eq_getElem?_getD, -Int.default_eq_zero] at hg; first | omega | (refine inR64_of ?_ ?_ <;> omega) | (constructor <;> omega)) | (simp [-List.getD_eq_getElem?_getD, -Int.default_eq_zero]; done))
      conv => whnf
      refine ⟨_, fun _ => call44 (L.getD 3 default) h3, ?_⟩
      conv => whnf
      refine ⟨?_, 2, by omega, by omega, rfl, rfl, ?_, ?_⟩
      · (try conv => whnf)
        (repeat' (first | exact True.intro | exact fun _ h => h | refine inR64_of ?_ ?_ | apply And.intro | refine maxLen_ge ?_)) <;> (first | omega | decide | (dsimp only; omega) | (dsimp only [List.length_cons, List.length_nil]; omega) | (intro hg; rw [hg]; rfl) | (intro hg hh; rw [hg, hh]; rfl) | (intro hg; simp [-List.getD_eq_getElem?_getD, -Int.default_eq_zero] at hg; first | omega | (refine inR64_of ?_ ?_ <;> omega) | (constructor <;> omega)) | (simp [-List.getD_eq_getElem?_getD, -Int.default_eq_zero]; done))
      all_goals repeat' (first | exact True.intro | refine leF_cons rfl ?_ ?_ | refine leS_cons rfl ?_ ?_ | (show PLe _ _ _ _; conv => whnf) | (show SLe _ _ _ _; conv => whnf) | (show PLeL _ _ _ _; conv => whnf) | apply And.intro | rfl | exact Nat.le_refl _ | exact fun _ _ => rfl | exact rowEq0 _ _)
      all_goals first | omega | skip
    · conv => whnf
      refine ⟨trivial, fun hc => ?_, fun hc => (by cases hc)⟩
      conv => whnf
      refine ⟨?_, fun h => (by cases h), fun h => ?_⟩
      · (try conv => whnf)
        (repeat' (first | exact True.intro | exact fun _ h => h | refine inR64_of ?_ ?_ | apply And.intro | refine maxLen_ge ?_)) <;> (first | omega | decide | (dsimp only; omega) | (dsimp only [List.length_cons, List.length_nil]; omega) | (intro hg; rw [hg]; rfl) | (intro hg hh; rw [hg, hh]; rfl) | (intro hg; simp [-List.getD_eq_getElem?_getD, -Int.default_eq_zero] at hg; first | omega | (refine inR64_of ?_ ?_ <;> omega) | (constructor <;> omega)) | (simp [-List.getD_eq_getElem?_getD, -Int.default_eq_zero]; done))
      conv => whnf
      refine ⟨?_, fun h => (by cases h), fun h => ?_⟩
      · (try conv => whnf)
        (repeat' (first | exact True.intro | exact fun _ h => h | refine inR64_of ?_ ?_ | apply And.intro | refine maxLen_ge ?_)) <;> (first | omega | decide | (dsimp only; omega) | (dsimp only [List.length_cons, List.length_nil]; omega) | (intro hg; rw [hg]; rfl) | (intro hg hh; rw [hg, hh]; rfl) | (intro hg; simp [-List.getD_eq_getElem?_getD, -Int.default_eq_zero] at hg; first | omega | (refine inR64_of ?_ ?_ <;> omega) | (constructor <;> omega)) | (simp [-List.getD_eq_getElem?_getD, -Int.default_eq_zero]; done))
      conv => whnf
      refine ⟨_, fun _ => call44 (L.getD 5 default) h5, ?_⟩
      conv => whnf
      refine ⟨?_, 3, by omega, by omega, rfl, rfl, ?_, ?_⟩
      · (try conv => whnf)
        (repeat' (first | exact True.intro | exact fun _ h => h | refine inR64_of ?_ ?_ | apply And.intro | refine maxLen_ge ?_)) <;> (first | omega | decide | (dsimp only; omega) | (dsimp only [List.length_cons, List.length_nil]; omega) | (intro hg; rw [hg]; rfl) | (intro hg hh; rw [hg, hh]; rfl) | (intro hg; simp [-List.getD_eq_getElem?_getD, -Int.default_eq_zero] at hg; first | omega | (refine inR64_of ?_ ?_ <;> omega) | (constructor <;> omega)) | (simp [-List.getD_eq_getElem?_getD, -Int.default_eq_zero]; done))
      all_goals repeat' (first | exact True.intro | refine leF_cons rfl ?_ ?_ | refine leS_cons rfl ?_ ?_ | (show PLe _ _ _ _; conv => whnf) | (show SLe _ _ _ _; conv => whnf) | (show PLeL _ _ _ _; conv => whnf) | apply And.intro | rfl | exact Nat.le_refl _ | exact fun _ _ => rfl | exact rowEq0 _ _)
      all_goals first | omega | skip
    · conv => whnf
      refine ⟨trivial, fun hc => ?_, fun hc => (by cases hc)⟩
      conv => whnf
      refine ⟨?_, fun hb => ?_, fun hb => ?_⟩
      · (try conv => whnf)
        (repeat' (first | exact True.intro | exact fun _ h => h | refine inR64_of ?_ ?_ | apply And.intro | refine maxLen_ge ?_)) <;> (first | omega | decide | (dsimp only; omega) | (dsimp only [List.length_cons, List.length_nil]; omega) | (intro hg; rw [hg]; rfl) | (intro hg hh; rw [hg, hh]; rfl) | (intro hg; simp [-List.getD_eq_getElem?_getD, -Int.default_eq_zero] at hg; first | omega | (refine inR64_of ?_ ?_ <;> omega) | (constructor <;> omega)) | (simp [-List.getD_eq_getElem?_getD, -Int.default_eq_zero]; done))
      · have hb : L.getD 7 default = wBounds := beq_iff_eq.1 hb
        have e1 : byN (L.getD 7 default) = -1 := by unfold byN; rw [if_pos hb]
        have e2 : byI (L.getD 7 default) = true := by unfold byI; rw [if_pos hb]
        conv => whnf
        refine ⟨?_, 4, by omega, by omega, rfl, rfl, ?_, ?_⟩
        · (try conv => whnf)
          (repeat' (first | exact True.intro | exact fun _ h => h | refine inR64_of ?_ ?_ | apply And.intro | refine maxLen_ge ?_)) <;> (first | omega | (dsimp only; omega))
        all_goals repeat' (first | exact True.intro | refine leF_cons rfl ?_ ?_ | refine leS_cons rfl ?_ ?_ | (show PLe _ _ _ _; conv => whnf) | (show SLe _ _ _ _; conv => whnf) | (show PLeL _ _ _ _; conv => whnf) | apply And.intro | rfl | exact Nat.le_refl _ | exact fun _ _ => rfl | exact rowEq0 _ _)
        all_goals first | (show _ = byN _; rw [e1]; done) | (show _ = (bif okJ L 3 then byI _ else false); rw [e2]; cases okJ L 3 <;> rfl) | omega | skip
      have hb1 : L.getD 7 default ≠ wBounds := beq_eq_false_iff_ne.1 hb
      conv => whnf
      refine ⟨?_, fun hb => ?_, fun hb => ?_⟩
      · (try conv => whnf)
        (repeat' (first | exact True.intro | exact fun _ h => h | refine inR64_of ?_ ?_ | apply And.intro | refine maxLen_ge ?_)) <;> (first | omega | decide | (dsimp only; omega) | (dsimp only [List.length_cons, List.length_nil]; omega) | (intro hg; rw [hg]; rfl) | (intro hg hh; rw [hg, hh]; rfl) | (intro hg; simp [-List.getD_eq_getElem?_getD, -Int.default_eq_zero] at hg; first | omega | (refine inR64_of ?_ ?_ <;> omega) | (constructor <;> omega)) | (simp [-List.getD_eq_getElem?_getD, -Int.default_eq_zero]; done))
      · have hb : L.getD 7 default = wPlan := beq_iff_eq.1 hb
        have e1 : byN (L.getD 7 default) = -2 := by unfold byN; rw [if_neg hb1, if_pos hb]
        have e2 : byI (L.getD 7 default) = true := by unfold byI; rw [if_neg hb1, if_pos hb]
        conv => whnf
        refine ⟨?_, 4, by omega, by omega, rfl, rfl, ?_, ?_⟩
        · (try conv => whnf)
          (repeat' (first | exact True.intro | exact fun _ h => h | refine inR64_of ?_ ?_ | apply And.intro | refine maxLen_ge ?_)) <;> (first | omega | (dsimp only; omega))
        all_goals repeat' (first | exact True.intro | refine leF_cons rfl ?_ ?_ | refine leS_cons rfl ?_ ?_ | (show PLe _ _ _ _; conv => whnf) | (show SLe _ _ _ _; conv => whnf) | (show PLeL _ _ _ _; conv => whnf) | apply And.intro | rfl | exact Nat.le_refl _ | exact fun _ _ => rfl | exact rowEq0 _ _)
        all_goals first | (show _ = byN _; rw [e1]; done) | (show _ = (bif okJ L 3 then byI _ else false); rw [e2]; cases okJ L 3 <;> rfl) | omega | skip
      have hb2 : L.getD 7 default ≠ wPlan := beq_eq_false_iff_ne.1 hb
      have e1 : byN (L.getD 7 default) = nW L 7 := by unfold byN; rw [if_neg hb1, if_neg hb2]; rfl
      have e2 : byI (L.getD 7 default) = isW L 7 := by unfold byI; rw [if_neg hb1, if_neg hb2]; rfl
      conv => whnf
      refine ⟨_, fun _ => call44 (L.getD 7 default) h7, ?_⟩
      conv => whnf
      refine ⟨?_, 4, by omega, by omega, rfl, rfl, ?_, ?_⟩
      · (try conv => whnf)
        (repeat' (first | exact True.intro | exact fun _ h => h | refine inR64_of ?_ ?_ | apply And.intro | refine maxLen_ge ?_)) <;> (first | omega | decide | (dsimp only; omega) | (dsimp only [List.length_cons, List.length_nil]; omega) | (intro hg; rw [hg]; rfl) | (intro hg hh; rw [hg, hh]; rfl) | (intro hg; simp [-List.getD_eq_getElem?_getD, -Int.default_eq_zero] at hg; first | omega | (refine inR64_of ?_ ?_ <;> omega) | (constructor <;> omega)) | (simp [-List.getD_eq_getElem?_getD, -Int.default_eq_zero]; done))
      all_goals repeat' (first | exact True.intro | refine leF_cons rfl ?_ ?_ | refine leS_cons rfl ?_ ?_ | (show PLe _ _ _ _; conv => whnf) | (show SLe _ _ _ _; conv => whnf) | (show PLeL _ _ _ _; conv => whnf) | apply And.intro | rfl | exact Nat.le_refl _ | exact fun _ _ => rfl | exact rowEq0 _ _)
      all_goals first | (show _ = byN _; rw [e1]; rfl) | (show _ = (bif okJ L 3 then byI _ else false); rw [e2]; rfl) | omega | skip
    · conv => whnf
      refine ⟨trivial, fun hc => (by cases hc), fun hc => ?_⟩
      conv => whnf
      refine ⟨?_, [], ?_⟩
      · (try conv => whnf)
        (repeat' (first | exact True.intro | exact fun _ h => h | refine inR64_of ?_ ?_ | apply And.intro | refine maxLen_ge ?_)) <;> (first | omega | (dsimp only; omega))
      conv => whnf
      refine ⟨rfl, ?_, trivial, trivial⟩
      all_goals repeat' (first | exact True.intro | refine leF_cons rfl ?_ ?_ | refine leS_cons rfl ?_ ?_ | (show PLe _ _ _ _; conv => whnf) | (show SLe _ _ _ _; conv => whnf) | (show PLeL _ _ _ _; conv => whnf) | apply And.intro | rfl | exact Nat.le_refl _ | exact fun _ _ => rfl | exact rowEq0 _ _)
end Pv
end Go.Proofs.YtafnkpmoolbjjaaDoor
/- LAW 42, THE WALKS: texts are read. -/
set_option linter.unusedSimpArgs false
set_option linter.unusedVariables false
namespace Go.Proofs.YtafnkpmoolbjjaaDoor
namespace Pv
def c12L1 : C := (.seq (.seq (.reg [⟨(some 12), 192, none, .mv (.t 0)⟩,
    ⟨(some 13), 208, none, .bi false .neq (.t 12) (.c (.str []))⟩])
  (.cond (.t 13) .skip (.exit 0)))
  (.seq (.block 1 (.seq (.reg [⟨(some 17), 272, none, .mv (.t 0)⟩,
    ⟨(some 18), 288, none, .call (.c (.fn (.func 28) [] [])) [(.t 17), (.c (.str [10]))]⟩,
    ⟨(some 16), 256, none, .mv (.t 18)⟩,
    ⟨(some 19), 304, none, .ex (.t 16) 0⟩,
    ⟨(some 20), 320, none, .ex (.t 16) 1⟩,
    ⟨(some 21), 336, none, .ex (.t 16) 2⟩,
    ⟨(some 7), 112, none, .mv (.t 19)⟩,
    ⟨(some 8), 128, none, .mv (.t 20)⟩,
    ⟨(some 9), 144, none, .mv (.t 21)⟩])
  (.seq (.reg [⟨(some 23), 368, none, .mv (.t 7)⟩,
    ⟨(some 24), 384, none, .call (.c (.fn (.func 29) [] [])) [(.t 23)]⟩,
    ⟨(some 22), 352, none, .mv (.t 24)⟩,
    ⟨(some 25), 400, none, .ex (.t 22) 0⟩,
    ⟨(some 26), 416, none, .ex (.t 22) 1⟩,
    ⟨(some 10), 160, none, .al [(.int .i64 0), (.int .i64 0), (.int .i64 0), (.int .i64 0)]⟩,
    ⟨none, 0, none, .st 4 (.t 10) (.t 25)⟩,
    ⟨(some 11), 176, none, .mv (.t 26)⟩])
  (.seq (.seq (.reg [⟨(some 27), 432, none, .mv (.t 9)⟩,
    ⟨(some 28), 448, none, .un false .not (.t 27)⟩,
    ⟨(some 29), 464, none, .mv (.t 28)⟩,
    ⟨(some 30), 480, (some (29, false)), .mv (.t 11)⟩,
    ⟨(some 31), 496, (some (29, false)), .un false .not (.t 30)⟩,
    ⟨(some 32), 512, none, .pick (.t 29) (.c (.bool true)) (.t 31)⟩])
  (.cond (.t 32) (.seq (.reg [⟨(some 33), 528, none, .mv (.t 6)⟩,
    ⟨(some 2), 32, none, .mv (.c (.nil 4))⟩,
    ⟨(some 3), 48, none, .mv (.t 33)⟩,
    ⟨(some 4), 64, none, .mv (.c (.int .i64 7))⟩])
  .ret) .skip))
  (.reg [⟨(some 34), 544, none, .mv (.t 8)⟩,
    ⟨(some 35), 560, none, .mv (.t 5)⟩,
    ⟨(some 36), 576, none, .ld 4 true (.t 10)⟩,
    ⟨(some 37), 592, none, .bs 41 4 [(.t 36)]⟩,
    ⟨(some 38), 608, none, .app 41 4 32 (.t 35) (.t 37)⟩,
    ⟨(some 0), 0, none, .mv (.t 34)⟩,
    ⟨(some 5), 80, none, .mv (.t 38)⟩])))))
  (.reg [⟨(some 14), 224, none, .mv (.t 6)⟩,
    ⟨(some 15), 240, none, .bi false .add (.t 14) (.c (.int .i64 1))⟩,
    ⟨(some 6), 96, none, .mv (.t 15)⟩])))
def c12 : C := (.seq (.reg [⟨(some 2), 32, none, .mv (.c (.nil 4))⟩,
    ⟨(some 3), 48, none, .mv (.c (.int .i64 0))⟩,
    ⟨(some 4), 64, none, .mv (.c (.int .i64 0))⟩])
  (.seq (.reg [⟨(some 5), 80, none, .mv (.c (.nil 4))⟩])
  (.seq (.seq (.reg [⟨(some 6), 96, none, .mv (.c (.int .i64 1))⟩])
  (.block 0 (.loop c12L1)))
  (.seq (.reg [⟨(some 39), 624, none, .mv (.t 5)⟩,
    ⟨(some 2), 32, none, .mv (.t 39)⟩,
    ⟨(some 3), 48, none, .mv (.c (.int .i64 0))⟩,
    ⟨(some 4), 64, none, .mv (.c (.int .i64 0))⟩])
  .ret))))
theorem fits12 : fits Tryd.prog false Tryd.f12 1 40 [(2, none), (3, none), (4, none)] = some c12.er := by kernel_rfl
def c13L1 : C := (.seq (.reg [⟨(some 16), 256, none, .bi false .lss (.t 15) (.t 14)⟩])
  (.seq (.cond (.t 16) .skip (.exit 0))
  (.seq (.block 1 (.seq (.reg [⟨(some 17), 272, none, .mv (.t 15)⟩,
    ⟨(some 18), 288, none, .ia 1 (.t 13) (.t 15)⟩,
    ⟨(some 19), 304, none, .ld 1 false (.t 18)⟩,
    ⟨(some 7), 112, none, .mv (.t 17)⟩,
    ⟨(some 8), 128, none, .mv (.t 19)⟩])
  (.seq (.seq (.reg [⟨(some 20), 320, none, .mv (.t 7)⟩,
    ⟨(some 21), 336, none, .mv (.t 6)⟩,
    ⟨(some 22), 352, none, .len (.t 21)⟩,
    ⟨(some 23), 368, none, .bi false .sub (.t 22) (.c (.int .i64 1))⟩,
    ⟨(some 24), 384, none, .bi false .eql (.t 20) (.t 23)⟩])
  (.cond (.t 24) (.seq (.seq (.reg [⟨(some 25), 400, none, .mv (.t 8)⟩,
    ⟨(some 26), 416, none, .bi false .neq (.t 25) (.c (.str []))⟩])
  (.cond (.t 26) (.seq (.reg [⟨(some 27), 432, none, .mv (.t 7)⟩,
    ⟨(some 28), 448, none, .bi false .add (.t 27) (.c (.int .i64 1))⟩,
    ⟨(some 2), 32, none, .mv (.c (.nil 4))⟩,
    ⟨(some 3), 48, none, .mv (.t 28)⟩,
    ⟨(some 4), 64, none, .mv (.c (.int .i64 7))⟩])
  .ret) .skip))
  (.exit 0)) .skip))
  (.seq (.reg [⟨(some 30), 480, none, .mv (.t 8)⟩,
    ⟨(some 31), 496, none, .call (.c (.fn (.func 31) [] [])) [(.t 30)]⟩,
    ⟨(some 29), 464, none, .mv (.t 31)⟩,
    ⟨(some 32), 512, none, .ex (.t 29) 0⟩,
    ⟨(some 33), 528, none, .ex (.t 29) 1⟩,
    ⟨(some 9), 144, none, .al [(.int .i64 0), (.int .i64 0), (.int .i64 0), (.int .i64 0)]⟩,
    ⟨none, 0, none, .st 4 (.t 9) (.t 32)⟩,
    ⟨(some 10), 160, none, .mv (.t 33)⟩])
  (.seq (.seq (.reg [⟨(some 34), 544, none, .mv (.t 10)⟩,
    ⟨(some 35), 560, none, .un false .not (.t 34)⟩])
  (.cond (.t 35) (.seq (.reg [⟨(some 36), 576, none, .mv (.t 7)⟩,
    ⟨(some 37), 592, none, .bi false .add (.t 36) (.c (.int .i64 1))⟩,
    ⟨(some 2), 32, none, .mv (.c (.nil 4))⟩,
    ⟨(some 3), 48, none, .mv (.t 37)⟩,
    ⟨(some 4), 64, none, .mv (.c (.int .i64 7))⟩])
  .ret) .skip))
  (.reg [⟨(some 38), 608, none, .mv (.t 5)⟩,
    ⟨(some 39), 624, none, .ld 4 true (.t 9)⟩,
    ⟨(some 40), 640, none, .bs 41 4 [(.t 39)]⟩,
    ⟨(some 41), 656, none, .app 41 4 32 (.t 38) (.t 40)⟩,
    ⟨(some 5), 80, none, .mv (.t 41)⟩]))))))
  (.reg [⟨(some 42), 672, none, .bi false .add (.t 15) (.c (.int .i64 1))⟩,
    ⟨(some 15), 240, none, .mv (.t 42)⟩]))))
def c13 : C := (.seq (.reg [⟨(some 2), 32, none, .mv (.c (.nil 4))⟩,
    ⟨(some 3), 48, none, .mv (.c (.int .i64 0))⟩,
    ⟨(some 4), 64, none, .mv (.c (.int .i64 0))⟩])
  (.seq (.reg [⟨(some 5), 80, none, .mv (.c (.nil 4))⟩])
  (.seq (.reg [⟨(some 11), 176, none, .mv (.t 0)⟩,
    ⟨(some 12), 192, none, .call (.c (.fn (.func 30) [] [])) [(.t 11), (.c (.str [10]))]⟩,
    ⟨(some 6), 96, none, .mv (.t 12)⟩])
  (.seq (.seq (.reg [⟨(some 13), 208, none, .mv (.t 6)⟩,
    ⟨(some 14), 224, none, .len (.t 13)⟩,
    ⟨(some 15), 240, none, .mv (.c (.int .i64 0))⟩])
  (.block 0 (.loop c13L1)))
  (.seq (.reg [⟨(some 43), 688, none, .mv (.t 5)⟩,
    ⟨(some 2), 32, none, .mv (.t 43)⟩,
    ⟨(some 3), 48, none, .mv (.c (.int .i64 0))⟩,
    ⟨(some 4), 64, none, .mv (.c (.int .i64 0))⟩])
  .ret)))))
theorem fits13 : fits Tryd.prog false Tryd.f13 1 44 [(2, none), (3, none), (4, none)] = some c13.er := by kernel_rfl
def pLinesV : Nat → List (List UInt8) → List Vi → List Vi × Int × Int
  | _, [], t => (t, 0, 0)
  | n, [x], t => if x ≠ [] then ([], n, 7) else (t, 0, 0)
  | n, x :: y :: r, t => if (lineW (splitC 32 x)).2 = false then ([], n, 7) else pLinesV (n + 1) (y :: r) (t ++ [(lineW (splitC 32 x)).1])
def parseV (s : List UInt8) : List Vi × Int × Int := pLinesV 1 (splitC 10 s) []
theorem pLinesV_cons {n : Nat} {x : List UInt8} {r : List (List UInt8)} {t : List Vi} (h : r ≠ []) : pLinesV n (x :: r) t = if (lineW (splitC 32 x)).2 = false then ([], (n : Int), (7 : Int)) else pLinesV (n + 1) r (t ++ [(lineW (splitC 32 x)).1]) := by
  cases r with
  | nil => exact absurd rfl h
  | cons y r => rfl
structure QInv (s0 : List UInt8) (n : Nat) (s : List UInt8) (t : List Vi) : Prop where
  h1 : 1 ≤ n
  eq : pLinesV n (splitC 10 s) t = parseV s0
  ln : n + (splitC 10 s).length ≤ s0.length + 3
  sl : s.length ≤ s0.length
  tl : t.length ≤ n
set_option maxRecDepth 100000 in
set_option maxHeartbeats 16000000 in
theorem call12 (s0 : List UInt8) (hs : s0.length < 4294967281) : PureCall Tryd.prog 12 [.str s0] [] ⟨.tup [.sl 0 4 (parseV s0).1.length (fl eVi (parseV s0).1), .int .i64 (parseV s0).2.1, .int .i64 (parseV s0).2.2], [], []⟩ := by
  refine pure_call mix Tryd.func12 fits12 rfl ?_
  conv => whnf
  refine ⟨trivial, ?_⟩
  refine LSem.adopt 5 1000000 41 4 4 rfl rfl ?_
  refine LSem.loop (n := 40) mix (α := Nat × List UInt8 × List Vi) (fun x => QInv s0 x.1 x.2.1 x.2.2)
    (fun x => [(0, .str x.2.1), (5, .os 1000000), (6, .int .i64 x.1)])
    (fun x => [(1000000, .row 0 41 4 x.2.2.length (fl eVi x.2.2))])
    (fun x => (splitC 10 x.2.1).length) (1, s0, []) ?_ ?_ ?_
  · have := (splitC_len 10 s0).1
    exact ⟨Nat.le_refl _, rfl, by dsimp only; omega, Nat.le_refl _, Nat.zero_le _⟩
  · refine ⟨rfl, rfl, ?_, ?_⟩
    all_goals repeat' (first | exact True.intro | refine leF_cons rfl ?_ ?_ | refine leS_cons rfl ?_ ?_ | (show PLe _ _ _ _; conv => whnf) | (show SLe _ _ _ _; conv => whnf) | (show PLeL _ _ _ _; conv => whnf) | apply And.intro | rfl | exact Nat.le_refl _ | exact fun _ _ => rfl | exact rowEq0 _ _)
  · intro x hx
    obtain ⟨n, s, t⟩ := x
    dsimp only at hx
    have hbr := splitC_brk 10 s
    have hlen := brkC_len 10 s
    have hsn := hx.sl
    have hln := hx.ln
    have heq := hx.eq
    have htl := hx.tl
    conv => whnf
    refine ⟨?_, fun hc => ?_, fun hc => ?_⟩
    · (try conv => whnf)
      (repeat' (first | exact True.intro | exact fun _ h => h | refine inR64_of ?_ ?_ | apply And.intro | refine maxLen_ge ?_)) <;> (first | omega | (dsimp only; omega))
    · have hne : s ≠ [] := by
        have h : (!(s == [])) = true := hc
        simpa using h
      conv => whnf
      refine ⟨_, fun _ => call28 s 10 (by omega), ?_⟩
      generalize brkC 10 s = B at hbr hlen ⊢
      obtain ⟨one, rest, ended⟩ := B
      dsimp only at hbr hlen
      conv => whnf
      refine ⟨_, fun _ => call29 one (by omega), ?_⟩
      cases ended with
      | false =>
        generalize lineW (splitC 32 one) = R
        conv => whnf
        refine ⟨?_, fun _ => ?_, fun h => (by cases h)⟩
        · (try conv => whnf)
          (repeat' (first | exact True.intro | exact fun _ h => h | refine inR64_of ?_ ?_ | apply And.intro | refine maxLen_ge ?_)) <;> (first | omega | decide | (dsimp only; omega) | (dsimp only [List.length_cons, List.length_nil]; omega) | (intro hg; rw [hg]; rfl) | (intro hg hh; rw [hg, hh]; rfl) | (intro hg; simp [-List.getD_eq_getElem?_getD, -Int.default_eq_zero] at hg; first | omega | (refine inR64_of ?_ ?_ <;> omega) | (constructor <;> omega)) | (simp [-List.getD_eq_getElem?_getD, -Int.default_eq_zero]; done))
        rw [if_neg (by decide)] at hbr
        have hp : parseV s0 = ([], (n : Int), 7) := by
          rw [← heq, hbr]
          show (if s ≠ [] then _ else _) = _
          rw [if_pos hne]
        rw [hp]
        conv => whnf
        refine ⟨?_, [], ?_⟩
        · (try conv => whnf)
          (repeat' (first | exact True.intro | exact fun _ h => h | refine inR64_of ?_ ?_ | apply And.intro | refine maxLen_ge ?_)) <;> (first | omega | (dsimp only; omega))
        conv => whnf
        refine ⟨rfl, ?_, trivial, trivial⟩
        all_goals repeat' (first | exact True.intro | refine leF_cons rfl ?_ ?_ | refine leS_cons rfl ?_ ?_ | (show PLe _ _ _ _; conv => whnf) | (show SLe _ _ _ _; conv => whnf) | (show PLeL _ _ _ _; conv => whnf) | apply And.intro | rfl | exact Nat.le_refl _ | exact fun _ _ => rfl | exact rowEq0 _ _)
      | true =>
        rw [if_pos rfl] at hbr
        have hl1 := hlen.2.2 rfl
        have hnr : (splitC 10 rest).length + 1 = (splitC 10 s).length := by rw [hbr]; rfl
        have hcons := pLinesV_cons (n := n) (x := one) (t := t) (splitC_ne 10 rest)
        rw [← hbr, heq] at hcons
        generalize lineW (splitC 32 one) = R at hcons ⊢
        obtain ⟨v, b⟩ := R
        dsimp only at hcons
        cases b with
        | false =>
          conv => whnf
          refine ⟨?_, fun _ => ?_, fun h => (by cases h)⟩
          · (try conv => whnf)
            (repeat' (first | exact True.intro | exact fun _ h => h | refine inR64_of ?_ ?_ | apply And.intro | refine maxLen_ge ?_)) <;> (first | omega | decide | (dsimp only; omega) | (dsimp only [List.length_cons, List.length_nil]; omega) | (intro hg; rw [hg]; rfl) | (intro hg hh; rw [hg, hh]; rfl) | (intro hg; simp [-List.getD_eq_getElem?_getD, -Int.default_eq_zero] at hg; first | omega | (refine inR64_of ?_ ?_ <;> omega) | (constructor <;> omega)) | (simp [-List.getD_eq_getElem?_getD, -Int.default_eq_zero]; done))
          rw [if_pos rfl] at hcons
          rw [hcons]
          conv => whnf
          refine ⟨?_, [], ?_⟩
          · (try conv => whnf)
            (repeat' (first | exact True.intro | exact fun _ h => h | refine inR64_of ?_ ?_ | apply And.intro | refine maxLen_ge ?_)) <;> (first | omega | (dsimp only; omega))
          conv => whnf
          refine ⟨rfl, ?_, trivial, trivial⟩
          all_goals repeat' (first | exact True.intro | refine leF_cons rfl ?_ ?_ | refine leS_cons rfl ?_ ?_ | (show PLe _ _ _ _; conv => whnf) | (show SLe _ _ _ _; conv => whnf) | (show PLeL _ _ _ _; conv => whnf) | apply And.intro | rfl | exact Nat.le_refl _ | exact fun _ _ => rfl | exact rowEq0 _ _)
        | true =>
          conv => whnf
          refine ⟨?_, fun h => (by cases h), fun _ => ?_⟩
          · (try conv => whnf)
            (repeat' (first | exact True.intro | exact fun _ h => h | refine inR64_of ?_ ?_ | apply And.intro | refine maxLen_ge ?_)) <;> (first | omega | decide | (dsimp only; omega) | (dsimp only [List.length_cons, List.length_nil]; omega) | (intro hg; rw [hg]; rfl) | (intro hg hh; rw [hg, hh]; rfl) | (intro hg; simp [-List.getD_eq_getElem?_getD, -Int.default_eq_zero] at hg; first | omega | (refine inR64_of ?_ ?_ <;> omega) | (constructor <;> omega)) | (simp [-List.getD_eq_getElem?_getD, -Int.default_eq_zero]; done))
          rw [if_neg (by decide)] at hcons
          have q := fl_push eVi t v
          have hxl : (t ++ [v]).length = t.length + 1 := by simp
          conv => whnf
          refine ⟨?_, (n + 1, rest, t ++ [v]), ⟨by dsimp only; omega, hcons.symm, ?_, ?_, ?_⟩, ?_, rfl, rfl, ?_, ?_⟩
          · (try conv => whnf)
            (repeat' (first | exact True.intro | exact fun _ h => h | refine inR64_of ?_ ?_ | apply And.intro | refine maxLen_ge ?_)) <;> (first | omega | decide | (dsimp only; omega) | (dsimp only [List.length_cons, List.length_nil]; omega) | (intro hg; rw [hg]; rfl) | (intro hg hh; rw [hg, hh]; rfl) | (intro hg; simp [-List.getD_eq_getElem?_getD, -Int.default_eq_zero] at hg; first | omega | (refine inR64_of ?_ ?_ <;> omega) | (constructor <;> omega)) | (simp [-List.getD_eq_getElem?_getD, -Int.default_eq_zero]; done))
          · dsimp only; omega
          · dsimp only; omega
          · dsimp only; rw [hxl]; omega
          · dsimp only; omega
          all_goals repeat' (first | exact True.intro | refine leF_cons rfl ?_ ?_ | refine leS_cons rfl ?_ ?_ | (show PLe _ _ _ _; conv => whnf) | (show SLe _ _ _ _; conv => whnf) | (show PLeL _ _ _ _; conv => whnf) | apply And.intro | rfl | exact Nat.le_refl _ | exact fun _ _ => rfl | exact rowEq0 _ _)
          all_goals first | exact q | (dsimp only; rw [hxl]; rfl) | (dsimp only; rw [hxl]; done) | (dsimp only; omega) | skip
    · have hs0 : s = [] := by
        have h : (!(s == [])) = false := hc
        simpa using h
      subst hs0
      have hp : parseV s0 = (t, 0, 0) := by
        rw [← heq]
        show (if ([] : List UInt8) ≠ [] then _ else _) = _
        rw [if_neg (by simp)]
      rw [hp]
      conv => whnf
      refine ⟨?_, [], ?_⟩
      · (try conv => whnf)
        (repeat' (first | exact True.intro | exact fun _ h => h | refine inR64_of ?_ ?_ | apply And.intro | refine maxLen_ge ?_)) <;> (first | omega | (dsimp only; omega))
      conv => whnf
      refine ⟨rfl, ?_, trivial, trivial⟩
      all_goals repeat' (first | exact True.intro | refine leF_cons rfl ?_ ?_ | refine leS_cons rfl ?_ ?_ | (show PLe _ _ _ _; conv => whnf) | (show SLe _ _ _ _; conv => whnf) | (show PLeL _ _ _ _; conv => whnf) | apply And.intro | rfl | exact Nat.le_refl _ | exact fun _ _ => rfl | exact rowEq0 _ _)
set_option maxRecDepth 100000 in
set_option maxHeartbeats 16000000 in
theorem call13 (s0 : List UInt8) (hs : s0.length < 4294967281) : PureCall Tryd.prog 13 [.str s0] [] ⟨.tup [.sl 0 4 (parseV s0).1.length (fl eVi (parseV s0).1), .int .i64 (parseV s0).2.1, .int .i64 (parseV s0).2.2], [], []⟩ := by
  have hpf : pLinesV 1 (splitC 10 s0) [] = parseV s0 := rfl
  refine pure_call mix Tryd.func13 fits13 rfl ?_
  conv => whnf
  refine ⟨_, fun _ => call30 s0 10 hs, ?_⟩
  have hL0 : 0 < (splitC 10 s0).length := List.length_pos_iff.2 (splitC_ne 10 s0)
  have hL1 := splitC_len 10 s0
  generalize splitC 10 s0 = L at hL0 hL1 hpf ⊢
  conv => whnf
  refine ⟨?_, ?_⟩
  · (try conv => whnf)
    (repeat' (first | exact True.intro | exact fun _ h => h | refine inR64_of ?_ ?_ | apply And.intro | refine maxLen_ge ?_)) <;> (first | omega | (dsimp only; omega))
  refine LSem.adopt 5 1000000 41 4 4 rfl rfl ?_
  refine LSem.loop (n := 44) mix (α := Nat × List Vi) (fun x => x.1 < L.length ∧ pLinesV (x.1 + 1) (L.drop x.1) x.2 = parseV s0 ∧ x.2.length ≤ x.1)
    (fun x => [(5, .os 1000000), (6, .os 192), (13, .os 192), (14, .int .i64 L.length), (15, .int .i64 x.1)])
    (fun x => [(192, .row 0 9 1 L.length (fl eStr L)), (1000000, .row 0 41 4 x.2.length (fl eVi x.2))])
    (fun x => L.length - x.1) (0, []) ?_ ?_ ?_
  · exact ⟨hL0, hpf, Nat.le_refl _⟩
  · refine ⟨rfl, rfl, ?_, ?_⟩
    all_goals repeat' (first | exact True.intro | refine leF_cons rfl ?_ ?_ | refine leS_cons rfl ?_ ?_ | (show PLe _ _ _ _; conv => whnf) | (show SLe _ _ _ _; conv => whnf) | (show PLeL _ _ _ _; conv => whnf) | apply And.intro | rfl | exact Nat.le_refl _ | exact fun _ _ => rfl | exact rowEq0 _ _)
  · intro x hx
    obtain ⟨i, t⟩ := x
    obtain ⟨hlt, heq, htl⟩ := hx
    dsimp only at hlt heq htl
    have hxl := hL1.2 _ (getD_mem hlt)
    have hj : ((i : Int)).toNat = i := by omega
    have hdrop : L.drop i = L.getD i default :: L.drop (i + 1) := by
      rw [List.drop_eq_getElem_cons hlt]
      congr 1
      simp [List.getD, hlt]
    rw [hdrop] at heq
    conv => whnf
    refine ⟨trivial, fun _ => ?_, fun hc => ?_⟩
    rotate_left
    · replace hc := of_decide_eq_false hc
      have h : ¬ (i : Int) < L.length := hc
      omega
    conv => whnf
    rw [hj]
    generalize L.getD i default = one at heq hxl ⊢
    refine ⟨?_, fun hc => ?_, fun hc => ?_⟩
    · (try conv => whnf)
      (repeat' (first | exact True.intro | exact fun _ h => h | refine inR64_of ?_ ?_ | apply And.intro | refine maxLen_ge ?_)) <;> (first | omega | (dsimp only; omega))
    · have hlast : i + 1 = L.length := by
        have := beq_iff_eq.1 hc
        have h : (i : Int) = (L.length : Int) - 1 := this
        omega
      rw [List.drop_of_length_le (by omega)] at heq
      have heq2 : (if one ≠ [] then ([], ((i + 1 : Nat) : Int), (7 : Int)) else (t, 0, 0)) = parseV s0 := heq
      conv => whnf
      refine ⟨?_, fun hc2 => ?_, fun hc2 => ?_⟩
      · (try conv => whnf)
        (repeat' (first | exact True.intro | exact fun _ h => h | refine inR64_of ?_ ?_ | apply And.intro | refine maxLen_ge ?_)) <;> (first | omega | (dsimp only; omega))
      · have h : one ≠ [] := by
          have h : (!(one == [])) = true := hc2
          simpa using h
        rw [if_pos h] at heq2
        rw [← heq2]
        conv => whnf
        refine ⟨?_, [], ?_⟩
        · (try conv => whnf)
          (repeat' (first | exact True.intro | exact fun _ h => h | refine inR64_of ?_ ?_ | apply And.intro | refine maxLen_ge ?_)) <;> (first | omega | (dsimp only; omega))
        conv => whnf
        refine ⟨rfl, ?_, trivial, trivial⟩
        all_goals repeat' (first | exact True.intro | refine leF_cons rfl ?_ ?_ | refine leS_cons rfl ?_ ?_ | (show PLe _ _ _ _; conv => whnf) | (show SLe _ _ _ _; conv => whnf) | (show PLeL _ _ _ _; conv => whnf) | apply And.intro | rfl | exact Nat.le_refl _ | exact fun _ _ => rfl | exact rowEq0 _ _)
        all_goals first | omega | (show (i : Int) + 1 = ((i + 1 : Nat) : Int); omega) | skip
      · have h : ¬ one ≠ [] := by
          have h : (!(one == [])) = false := hc2
          simpa using h
        rw [if_neg h] at heq2
        rw [← heq2]
        conv => whnf
        refine ⟨?_, [], ?_⟩
        · (try conv => whnf)
          (repeat' (first | exact True.intro | exact fun _ h => h | refine inR64_of ?_ ?_ | apply And.intro | refine maxLen_ge ?_)) <;> (first | omega | (dsimp only; omega))
        conv => whnf
        refine ⟨rfl, ?_, trivial, trivial⟩
        all_goals repeat' (first | exact True.intro | refine leF_cons rfl ?_ ?_ | refine leS_cons rfl ?_ ?_ | (show PLe _ _ _ _; conv => whnf) | (show SLe _ _ _ _; conv => whnf) | (show PLeL _ _ _ _; conv => whnf) | apply And.intro | rfl | exact Nat.le_refl _ | exact fun _ _ => rfl | exact rowEq0 _ _)
    · have hnl : i + 1 < L.length := by
        have h : ¬ (i : Int) = (L.length : Int) - 1 := fun e => by
          have : ((i : Int) == (L.length : Int) - 1) = true := beq_iff_eq.2 e
          have h2 : ((i : Int) == (L.length : Int) - 1) = false := hc
          rw [this] at h2; cases h2
        omega
      have hne : L.drop (i + 1) ≠ [] := fun e => by
        have := congrArg List.length e
        rw [List.length_drop, List.length_nil] at this
        omega
      have hcons := pLinesV_cons (n := i + 1) (x := one) (t := t) hne
      rw [heq] at hcons
      conv => whnf
      refine ⟨_, fun _ => call31 one (by omega), ?_⟩
      generalize lineW (splitC 32 one) = R at hcons ⊢
      obtain ⟨v, b⟩ := R
      dsimp only at hcons
      cases b with
      | false =>
        conv => whnf
        refine ⟨?_, fun _ => ?_, fun h => (by cases h)⟩
        · (try conv => whnf)
          (repeat' (first | exact True.intro | exact fun _ h => h | refine inR64_of ?_ ?_ | apply And.intro | refine maxLen_ge ?_)) <;> (first | omega | (dsimp only; omega))
        rw [if_pos rfl] at hcons
        rw [hcons]
        conv => whnf
        refine ⟨?_, [], ?_⟩
        · (try conv => whnf)
          (repeat' (first | exact True.intro | exact fun _ h => h | refine inR64_of ?_ ?_ | apply And.intro | refine maxLen_ge ?_)) <;> (first | omega | (dsimp only; omega))
        conv => whnf
        refine ⟨rfl, ?_, trivial, trivial⟩
        all_goals repeat' (first | exact True.intro | refine leF_cons rfl ?_ ?_ | refine leS_cons rfl ?_ ?_ | (show PLe _ _ _ _; conv => whnf) | (show SLe _ _ _ _; conv => whnf) | (show PLeL _ _ _ _; conv => whnf) | apply And.intro | rfl | exact Nat.le_refl _ | exact fun _ _ => rfl | exact rowEq0 _ _)
        all_goals first | omega | (show (i : Int) + 1 = ((i + 1 : Nat) : Int); omega) | skip
      | true =>
        conv => whnf
        refine ⟨?_, fun h => (by cases h), fun _ => ?_⟩
        · (try conv => whnf)
          (repeat' (first | exact True.intro | exact fun _ h => h | refine inR64_of ?_ ?_ | apply And.intro | refine maxLen_ge ?_)) <;> (first | omega | (dsimp only; omega))
        rw [if_neg (by decide)] at hcons
        have q := fl_push eVi t v
        have hxl : (t ++ [v]).length = t.length + 1 := by simp
        conv => whnf
        refine ⟨?_, (i + 1, t ++ [v]), ⟨hnl, hcons.symm, by dsimp only; rw [hxl]; omega⟩, ?_, rfl, rfl, ?_, ?_⟩
        · (try conv => whnf)
          (repeat' (first | exact True.intro | exact fun _ h => h | refine inR64_of ?_ ?_ | apply And.intro | refine maxLen_ge ?_)) <;> (first | omega | decide | (dsimp only; omega) | (dsimp only [List.length_cons, List.length_nil]; omega) | (intro hg; rw [hg]; rfl) | (intro hg hh; rw [hg, hh]; rfl) | (intro hg; simp [-List.getD_eq_getElem?_getD, -Int.default_eq_zero] at hg; first | omega | (refine inR64_of ?_ ?_ <;> omega) | (constructor <;> omega)) | (simp [-List.getD_eq_getElem?_getD, -Int.default_eq_zero]; done))
        · dsimp only; omega
        all_goals repeat' (first | exact True.intro | refine leF_cons rfl ?_ ?_ | refine leS_cons rfl ?_ ?_ | (show PLe _ _ _ _; conv => whnf) | (show SLe _ _ _ _; conv => whnf) | (show PLeL _ _ _ _; conv => whnf) | apply And.intro | rfl | exact Nat.le_refl _ | exact fun _ _ => rfl | exact rowEq0 _ _)
        all_goals first | exact q | (dsimp only; rw [hxl]; rfl) | (dsimp only; rw [hxl]; done) | (dsimp only; omega) | skip
end Pv
end Go.Proofs.YtafnkpmoolbjjaaDoor
/- (*strings.Builder).String OF A BUILDER THAT HOLDS NOTHING: the empty text. -/
set_option linter.unusedSimpArgs false
set_option linter.unusedVariables false
namespace Go.Proofs.YtafnkpmoolbjjaaDoor
namespace Pv
open Go.RowKit Go.Shelf
variable {P : Program} {ρ : Ren}
theorem Held.drew {T e : TypeId} {b : Nat} {p v : Value} {s : List UInt8} {w : World} (h : Held T e b p v s w) : Held T e b p v s w.drew := ⟨h.cells, h.own, h.ne⟩
theorem Held.alloc0 {T e : TypeId} {b : Nat} {p v : Value} {s : List UInt8} {w : World} (h : Held T e b p v s w) (o : Obj) : Held T e b p v s (w.alloc o) := by
  refine ⟨(Lib.alloc_old w o b h.lt).trans h.cells, ?_, h.ne⟩
  obtain ⟨hl, ho⟩ := h.own
  refine ⟨hl, ?_⟩
  rcases ho with ho | ⟨g, cap, cur, fz, hv, h0, hg, rest⟩
  · exact .inl ho
  · exact .inr ⟨g, cap, cur, fz, hv, h0, (Lib.alloc_old w o g (Array.getElem?_eq_some_iff.1 hg).1).trans hg, rest⟩
set_option maxHeartbeats 2000000 in
set_option maxRecDepth 100000 in
theorem held_nil (L : Lays.n169 P ρ) (X : Builder.Extra P ρ) {b : Nat} {p : Value} {w : World} (h : Held (ρ.t 72) (ρ.t 5) b p (.slice none 0 0) [] w) :
    Calls P (ρ.f 169) #[.pointer (some ⟨b, 0, none⟩)] w fun e w' => e = .returned (.string ⟨[].toArray⟩) ∧ Held (ρ.t 72) (ρ.t 5) b p (.slice none 0 0) [] w' ∧ Keeps (fun k => k = b ∨ (Value.slice none 0 0).ownBlock = some k) w w' := by
  have hUS := Any.unsafeString_none L X
  have c1 : w.drew.cell? ⟨b, 1, none⟩ = some (.slice none 0 0) := by
    have : w.drew.heap[b]? = some (.cells #[p, .slice none 0 0] (ρ.t 72) (0, 0)) := h.cells
    rw [Lib.cell_of_heap this]; rfl
  have hSD : (Builtin.unsafeSliceData_ #[(ρ.t 37)] (ρ.t 127) #[.slice none 0 0]).run P w.drew = .ok (.pointer none) w.drew := rfl
  have mixed := L.mixed
  have t72 := L.t72; have a72 := L.a72; have z72 := L.z72; have v72 := L.v72; have u72 := run_underlying L.t72
  have t70 := L.t70; have a70 := L.a70; have z70 := L.z70; have v70 := L.v70; have u70 := run_underlying L.t70
  have t37 := L.t37; have a37 := L.a37; have z37 := L.z37; have v37 := L.v37; have u37 := run_underlying L.t37
  have t127 := L.t127; have a127 := L.a127; have z127 := L.z127; have v127 := L.v127; have u127 := run_underlying L.t127
  have t3 := L.t3; have a3 := L.a3; have z3 := L.z3; have v3 := L.v3; have u3 := run_underlying L.t3
  have t9 := L.t9; have a9 := L.a9; have z9 := L.z9; have v9 := L.v9; have u9 := run_underlying L.t9
  have t5 := X.t5; have a5 := X.a5; have z5 := X.z5; have v5 := X.v5; have u5 := run_underlying X.t5
  go_enter L.f169, Body.n169_ntmps ρ
  go_wp2
  go_region_o
  all_goals (go_wp2; go_ret; exact ⟨rfl, h.drew, Keeps.drew _ w⟩)
set_option maxHeartbeats 2000000 in
set_option maxRecDepth 100000 in
theorem held_noroom (L : Lays.n169 P ρ) (X : Builder.Extra P ρ) {b g : Nat} {p : Value} {cur : Array Value} {fz : Nat × Nat} {w : World} (h : Held (ρ.t 72) (ρ.t 5) b p (.slice (some ⟨g, 0, none⟩) 0 0) [] w) (hg : w.heap[g]? = some (.cells cur (ρ.t 5) fz)) :
    Calls P (ρ.f 169) #[.pointer (some ⟨b, 0, none⟩)] w fun e w' => e = .returned (.string ⟨[].toArray⟩) ∧ Held (ρ.t 72) (ρ.t 5) b p (.slice (some ⟨g, 0, none⟩) 0 0) [] w' ∧ Keeps (fun k => k = b ∨ (Value.slice (some ⟨g, 0, none⟩) 0 0).ownBlock = some k) w w' := by
  have hUS := Any.unsafeString_none L X
  have hlt := h.lt
  have c1 : w.drew.cell? ⟨b, 1, none⟩ = some (.slice (some ⟨g, 0, none⟩) 0 0) := by
    have : w.drew.heap[b]? = some (.cells #[p, .slice (some ⟨g, 0, none⟩) 0 0] (ρ.t 72) (0, 0)) := h.cells
    rw [Lib.cell_of_heap this]; rfl
  have hSD : (Builtin.unsafeSliceData_ #[(ρ.t 37)] (ρ.t 127) #[.slice (some ⟨g, 0, none⟩) 0 0]).run P w.drew = .ok (.pointer (some ⟨w.drew.heap.size, 0, none⟩)) (w.drew.alloc (.view ⟨g, 0, none⟩ (ρ.t 5))) :=
    Lib.run_unsafeSliceData_zero w.drew _ _ (ρ.t 5) L.t127 ⟨g, 0, none⟩ 0 ((ρ.t 5), cur.size) (by have hg' : w.drew.heap[g]? = some (.cells cur (ρ.t 5) fz) := hg; simp [World.shape?, hg'])
  have c2 : (w.drew.alloc (.view ⟨g, 0, none⟩ (ρ.t 5))).cell? ⟨b, 1, none⟩ = some (.slice (some ⟨g, 0, none⟩) 0 0) := by
    have : (w.drew.alloc (.view ⟨g, 0, none⟩ (ρ.t 5))).heap[b]? = _ := (Lib.alloc_old w.drew _ b hlt).trans h.cells
    rw [Lib.cell_of_heap this]; rfl
  have c3 : (w.alloc (.view ⟨g, 0, none⟩ (ρ.t 5))).drew.cell? ⟨b, 1, none⟩ = some (.slice (some ⟨g, 0, none⟩) 0 0) := c2
  have c0 : w.cell? ⟨b, 1, none⟩ = some (.slice (some ⟨g, 0, none⟩) 0 0) := c1
  have mixed := L.mixed
  have t72 := L.t72; have a72 := L.a72; have z72 := L.z72; have v72 := L.v72; have u72 := run_underlying L.t72
  have t70 := L.t70; have a70 := L.a70; have z70 := L.z70; have v70 := L.v70; have u70 := run_underlying L.t70
  have t37 := L.t37; have a37 := L.a37; have z37 := L.z37; have v37 := L.v37; have u37 := run_underlying L.t37
  have t127 := L.t127; have a127 := L.a127; have z127 := L.z127; have v127 := L.v127; have u127 := run_underlying L.t127
  have t3 := L.t3; have a3 := L.a3; have z3 := L.z3; have v3 := L.v3; have u3 := run_underlying L.t3
  have t9 := L.t9; have a9 := L.a9; have z9 := L.z9; have v9 := L.v9; have u9 := run_underlying L.t9
  have t5 := X.t5; have a5 := X.a5; have z5 := X.z5; have v5 := X.v5; have u5 := run_underlying X.t5
  go_enter L.f169, Body.n169_ntmps ρ
  go_wp2
  go_region_o
  all_goals (go_wp2; go_ret; exact ⟨rfl, h.drew.alloc0 _, (Keeps.drew _ w).trans (Keeps.alloc _ w.drew _)⟩)
set_option maxHeartbeats 2000000 in
set_option maxRecDepth 100000 in
theorem held_room (L : Lays.n169 P ρ) (X : Builder.Extra P ρ) {b g cap : Nat} {p : Value} {w : World} (hc0 : cap ≠ 0) (h : Held (ρ.t 72) (ρ.t 5) b p (.slice (some ⟨g, 0, none⟩) 0 cap) [] w) :
    Calls P (ρ.f 169) #[.pointer (some ⟨b, 0, none⟩)] w fun e w' => e = .returned (.string ⟨[].toArray⟩) ∧ Held (ρ.t 72) (ρ.t 5) b p (.slice (some ⟨g, 0, none⟩) 0 cap) [] w' ∧ Keeps (fun k => k = b ∨ (Value.slice (some ⟨g, 0, none⟩) 0 cap).ownBlock = some k) w w' := by
  have hUS := Any.unsafeString_none L X
  have c1 : w.drew.cell? ⟨b, 1, none⟩ = some (.slice (some ⟨g, 0, none⟩) 0 cap) := by
    have : w.drew.heap[b]? = some (.cells #[p, .slice (some ⟨g, 0, none⟩) 0 cap] (ρ.t 72) (0, 0)) := h.cells
    rw [Lib.cell_of_heap this]; rfl
  have hSD : (Builtin.unsafeSliceData_ #[(ρ.t 37)] (ρ.t 127) #[.slice (some ⟨g, 0, none⟩) 0 cap]).run P w.drew = .ok (.pointer (some ⟨g, 0, none⟩)) w.drew :=
    Lib.run_unsafeSliceData_row _ _ _ _ _ _ hc0
  clear hc0
  have mixed := L.mixed
  have t72 := L.t72; have a72 := L.a72; have z72 := L.z72; have v72 := L.v72; have u72 := run_underlying L.t72
  have t70 := L.t70; have a70 := L.a70; have z70 := L.z70; have v70 := L.v70; have u70 := run_underlying L.t70
  have t37 := L.t37; have a37 := L.a37; have z37 := L.z37; have v37 := L.v37; have u37 := run_underlying L.t37
  have t127 := L.t127; have a127 := L.a127; have z127 := L.z127; have v127 := L.v127; have u127 := run_underlying L.t127
  have t3 := L.t3; have a3 := L.a3; have z3 := L.z3; have v3 := L.v3; have u3 := run_underlying L.t3
  have t9 := L.t9; have a9 := L.a9; have z9 := L.z9; have v9 := L.v9; have u9 := run_underlying L.t9
  have t5 := X.t5; have a5 := X.a5; have z5 := X.z5; have v5 := X.v5; have u5 := run_underlying X.t5
  go_enter L.f169, Body.n169_ntmps ρ
  go_wp2
  go_region_o
  all_goals (go_wp2; go_ret; exact ⟨rfl, h.drew, Keeps.drew _ w⟩)
theorem held_empty (L : Lays.n169 P ρ) (X : Builder.Extra P ρ) {b : Nat} {p v : Value} {w : World} (h : Held (ρ.t 72) (ρ.t 5) b p v [] w) :
    Calls P (ρ.f 169) #[.pointer (some ⟨b, 0, none⟩)] w fun e w' => e = .returned (.string ⟨[].toArray⟩) ∧ Held (ρ.t 72) (ρ.t 5) b p v [] w' ∧ Keeps (fun k => k = b ∨ v.ownBlock = some k) w w' := by
  rcases h.own.2 with ⟨rfl, _⟩ | ⟨g, cap, cur, fz, rfl, _, hg, _⟩
  · exact held_nil L X h
  · by_cases hc0 : cap = 0
    · subst hc0; exact held_noroom L X h hg
    · exact held_room L X hc0 h
end Pv
namespace Pv
theorem call33z (s : List UInt8) : PureCall Tryd.prog 33 [.pt 0 0 0] [.bld 73 5 s] ⟨.str s, [.bld 73 5 s], []⟩ := by
  cases s with
  | nil => exact pure_bld ⟨_, Tryd.func33, rfl, rfl⟩ args_nil (fun _ _ _ => .str []) fun w b p v hp hH =>
    (held_empty Sh.lays169 Sh.bX_169 hH).mono fun ev w' ⟨he, h1, h2⟩ => ⟨he, p, v, hp, h1, h2, fun g hg => .inl hg⟩
  | cons x r => exact call33 (x :: r) (by simp)
end Pv
end Go.Proofs.YtafnkpmoolbjjaaDoor
/- LAW 42, THE WALKS: the text of violations. -/
set_option linter.unusedSimpArgs false
set_option linter.unusedVariables false
namespace Go.Proofs.YtafnkpmoolbjjaaDoor
namespace Pv
def c15L2 : C := (.seq (.reg [⟨(some 28), 448, none, .bi true .lss (.t 27) (.t 26)⟩])
  (.seq (.cond (.t 28) .skip (.exit 2))
  (.seq (.block 3 (.seq (.reg [⟨(some 29), 464, none, .ia 1 (.t 25) (.t 27)⟩,
    ⟨(some 30), 480, none, .ld 1 false (.t 29)⟩,
    ⟨(some 8), 128, none, .mv (.t 30)⟩])
  (.seq (.reg [⟨(some 31), 496, none, .mv (.t 8)⟩,
    ⟨(some 32), 512, none, .bi true .lss (.t 31) (.c (.int .i64 0))⟩])
  (.cond (.t 32) (.seq (.reg [⟨(some 2), 32, none, .mv (.c (.str []))⟩,
    ⟨(some 3), 48, none, .mv (.c (.int .i64 3))⟩])
  .ret) .skip))))
  (.reg [⟨(some 33), 528, none, .bi true .add (.t 27) (.c (.int .i64 1))⟩,
    ⟨(some 27), 432, none, .mv (.t 33)⟩]))))
def c15L1 : C := (.seq (.reg [⟨(some 13), 208, none, .bi true .lss (.t 12) (.t 11)⟩])
  (.seq (.cond (.t 13) .skip (.exit 0))
  (.seq (.block 1 (.seq (.reg [⟨(some 14), 224, none, .ia 4 (.t 10) (.t 12)⟩,
    ⟨(some 15), 240, none, .ld 4 true (.t 14)⟩,
    ⟨(some 6), 96, none, .al [(.int .i64 0), (.int .i64 0), (.int .i64 0), (.int .i64 0)]⟩,
    ⟨none, 0, none, .st 4 (.t 6) (.t 15)⟩])
  (.seq (.seq (.reg [⟨(some 16), 256, none, .fa 0 (.t 6)⟩,
    ⟨(some 17), 272, none, .ld 1 false (.t 16)⟩,
    ⟨(some 18), 288, none, .fa 1 (.t 6)⟩,
    ⟨(some 19), 304, none, .ld 1 false (.t 18)⟩,
    ⟨(some 20), 320, none, .fa 2 (.t 6)⟩,
    ⟨(some 21), 336, none, .ld 1 false (.t 20)⟩,
    ⟨(some 22), 352, none, .fa 3 (.t 6)⟩,
    ⟨(some 23), 368, none, .ld 1 false (.t 22)⟩,
    ⟨(some 24), 384, none, .bi true .add (.t 23) (.c (.int .i64 2))⟩,
    ⟨(some 25), 400, none, .bs 3 1 [(.t 17), (.t 19), (.t 21), (.t 24)]⟩,
    ⟨(some 26), 416, none, .len (.t 25)⟩,
    ⟨(some 27), 432, none, .mv (.c (.int .i64 0))⟩])
  (.block 2 (.loop c15L2)))
  (.seq (.seq (.reg [⟨(some 34), 544, none, .fa 0 (.t 6)⟩,
    ⟨(some 35), 560, none, .ld 1 false (.t 34)⟩,
    ⟨(some 36), 576, none, .fa 1 (.t 6)⟩,
    ⟨(some 37), 592, none, .ld 1 false (.t 36)⟩,
    ⟨(some 38), 608, none, .fa 2 (.t 6)⟩,
    ⟨(some 39), 624, none, .ld 1 false (.t 38)⟩,
    ⟨(some 40), 640, none, .fa 3 (.t 6)⟩,
    ⟨(some 41), 656, none, .ld 1 false (.t 40)⟩,
    ⟨(some 42), 672, none, .mx [(.t 35), (.t 37), (.t 39), (.t 41)]⟩,
    ⟨(some 43), 688, none, .bi true .gtr (.t 42) (.c (.int .i64 99999999))⟩])
  (.cond (.t 43) (.seq (.reg [⟨(some 2), 32, none, .mv (.c (.str []))⟩,
    ⟨(some 3), 48, none, .mv (.c (.int .i64 3))⟩])
  .ret) .skip))
  (.seq (.reg [⟨(some 44), 704, none, .fa 3 (.t 6)⟩,
    ⟨(some 45), 720, none, .ld 1 false (.t 44)⟩,
    ⟨(some 46), 736, none, .call (.c (.fn (.func 27) [] [])) [(.t 45)]⟩,
    ⟨(some 9), 144, none, .mv (.t 46)⟩])
  (.seq (.seq (.reg [⟨(some 47), 752, none, .fa 3 (.t 6)⟩,
    ⟨(some 48), 768, none, .ld 1 false (.t 47)⟩])
  (.block 4 (.seq (.reg [⟨(some 50), 800, none, .bi true .eql (.t 48) (.c (.int .i64 (-1)))⟩,
    ⟨(some 49), 784, none, .mv (.t 50)⟩])
  (.cond (.t 49) (.reg [⟨(some 9), 144, none, .mv (.c (.str [98, 111, 117, 110, 100, 115]))⟩]) (.seq (.reg [⟨(some 52), 832, none, .bi true .eql (.t 48) (.c (.int .i64 (-2)))⟩,
    ⟨(some 51), 816, none, .mv (.t 52)⟩])
  (.cond (.t 51) (.reg [⟨(some 9), 144, none, .mv (.c (.str [112, 108, 97, 110]))⟩]) .skip))))))
  (.drw [⟨(some 53), 848, none, .fa 0 (.t 6)⟩,
    ⟨(some 54), 864, none, .ld 1 false (.t 53)⟩,
    ⟨(some 55), 880, none, .call (.c (.fn (.func 27) [] [])) [(.t 54)]⟩,
    ⟨(some 56), 896, none, .bi true .add (.c (.str [115, 116, 101, 112, 32])) (.t 55)⟩,
    ⟨(some 57), 912, none, .bi true .add (.t 56) (.c (.str [32, 115, 105, 116, 101, 32]))⟩,
    ⟨(some 58), 928, none, .fa 1 (.t 6)⟩,
    ⟨(some 59), 944, none, .ld 1 false (.t 58)⟩,
    ⟨(some 60), 960, none, .call (.c (.fn (.func 27) [] [])) [(.t 59)]⟩,
    ⟨(some 61), 976, none, .bi true .add (.t 57) (.t 60)⟩,
    ⟨(some 62), 992, none, .bi true .add (.t 61) (.c (.str [32, 99, 111, 110, 100, 105, 116, 105, 111, 110, 32]))⟩,
    ⟨(some 63), 1008, none, .fa 2 (.t 6)⟩,
    ⟨(some 64), 1024, none, .ld 1 false (.t 63)⟩,
    ⟨(some 65), 1040, none, .call (.c (.fn (.func 27) [] [])) [(.t 64)]⟩,
    ⟨(some 66), 1056, none, .bi true .add (.t 62) (.t 65)⟩,
    ⟨(some 67), 1072, none, .bi true .add (.t 66) (.c (.str [32, 98, 121, 32]))⟩,
    ⟨(some 68), 1088, none, .mv (.t 9)⟩,
    ⟨(some 69), 1104, none, .bi true .add (.t 67) (.t 68)⟩,
    ⟨(some 70), 1120, none, .bi true .add (.t 69) (.c (.str [10]))⟩,
    ⟨(some 71), 1136, none, .call (.c (.fn (.func 32) [] [])) [(.t 4), (.t 70)]⟩]
    [(0, 5, 53), (0, 6, 53), (0, 10, 53), (0, 11, 53), (0, 15, 53), (1, 5, 54), (1, 6, 54), (1, 10, 54), (1, 11, 54), (1, 15, 54), (2, 5, 55), (2, 6, 55), (2, 10, 55), (2, 11, 55), (2, 15, 55), (3, 5, 56), (3, 6, 56), (3, 7, 56), (3, 10, 56), (3, 11, 56), (3, 12, 56), (3, 15, 56), (4, 5, 57), (4, 6, 57), (4, 7, 57), (4, 10, 57), (4, 11, 57), (4, 12, 57), (4, 15, 57), (5, 10, 58), (5, 11, 58), (5, 15, 58), (6, 10, 59), (6, 11, 59), (6, 15, 59), (7, 10, 60), (7, 11, 60), (7, 15, 60), (8, 10, 61), (8, 11, 61), (8, 12, 61), (8, 15, 61), (9, 10, 62), (9, 11, 62), (9, 12, 62), (9, 15, 62), (10, 15, 63), (11, 15, 64), (12, 15, 65), (13, 15, 66), (14, 15, 67)])))))))
  (.reg [⟨(some 72), 1152, none, .bi true .add (.t 12) (.c (.int .i64 1))⟩,
    ⟨(some 12), 192, none, .mv (.t 72)⟩]))))
def c15 : C := (.seq (.reg [⟨(some 2), 32, none, .mv (.c (.str []))⟩,
    ⟨(some 3), 48, none, .mv (.c (.int .i64 0))⟩])
  (.seq (.reg [⟨(some 4), 64, none, .alb 73 5⟩])
  (.seq (.seq (.reg [⟨(some 10), 160, none, .mv (.t 0)⟩,
    ⟨(some 11), 176, none, .len (.t 10)⟩,
    ⟨(some 12), 192, none, .mv (.c (.int .i64 0))⟩])
  (.block 0 (.loop c15L1)))
  (.seq (.reg [⟨(some 73), 1168, none, .call (.c (.fn (.func 33) [] [])) [(.t 4)]⟩,
    ⟨(some 2), 32, none, .mv (.t 73)⟩,
    ⟨(some 3), 48, none, .mv (.c (.int .i64 0))⟩])
  .ret))))
theorem fits15 : fits Tryd.prog true Tryd.f15 1 74 [(2, none), (3, none)] = some c15.er := by kernel_rfl
theorem wrap64 (n : Int) : IntKind.wrap .i64 n = (n + 9223372036854775808) % 18446744073709551616 - 9223372036854775808 := by
  simp [IntKind.wrap, IntKind.signed, IntKind.bits]
  omega
def badV (v : Vi) : Prop := v.t < 0 ∨ v.s < 0 ∨ v.c < 0 ∨ v.b < -2 ∨ 99999999 < v.t ∨ 99999999 < v.s ∨ 99999999 < v.c ∨ 99999999 < v.b
instance (v : Vi) : Decidable (badV v) := by unfold badV; infer_instance
def tSite : List UInt8 := [32, 115, 105, 116, 101, 32]
def tCond : List UInt8 := [32, 99, 111, 110, 100, 105, 116, 105, 111, 110, 32]
def tBy : List UInt8 := [32, 98, 121, 32]
def byT (b : Int) : List UInt8 := if b = -1 then wBounds else if b = -2 then wPlan else Lib.itoa b
def lineVT (v : Vi) : List UInt8 := [115, 116, 101, 112, 32] ++ Lib.itoa v.t ++ tSite ++ Lib.itoa v.s ++ tCond ++ Lib.itoa v.c ++ tBy ++ byT v.b ++ [10]
def textV (l : List Vi) : List UInt8 := l.flatMap lineVT
def formatV (l : List Vi) : List UInt8 × Int := if l.any (fun v => decide (badV v)) = true then ([], 3) else (textV l, 0)
def V64 (v : Vi) : Prop := (-9223372036854775808 ≤ v.t ∧ v.t ≤ 9223372036854775807) ∧ (-9223372036854775808 ≤ v.s ∧ v.s ≤ 9223372036854775807) ∧ (-9223372036854775808 ≤ v.c ∧ v.c ≤ 9223372036854775807) ∧ (-9223372036854775808 ≤ v.b ∧ v.b ≤ 9223372036854775807)
theorem textV_take {l : List Vi} {i : Nat} (h : i < l.length) : textV (l.take (i + 1)) = textV (l.take i) ++ lineVT (l.getD i default) := by
  rw [take_pushV h]; simp [textV]
theorem byT_len {b : Int} (h1 : -9223372036854775808 ≤ b) (h2 : b ≤ 9223372036854775807) : (byT b).length ≤ 22 := by
  unfold byT wBounds wPlan
  split
  · simp
  split
  · simp
  · have := Lib.itoa_length_le b h1 h2; omega
theorem lineVT_len {v : Vi} (h : V64 v) : (lineVT v).length ≤ 120 := by
  obtain ⟨⟨a1, a2⟩, ⟨b1, b2⟩, ⟨c1, c2⟩, ⟨d1, d2⟩⟩ := h
  have h1 := Lib.itoa_length_le v.t a1 a2
  have h2 := Lib.itoa_length_le v.s b1 b2
  have h3 := Lib.itoa_length_le v.c c1 c2
  have h4 := byT_len d1 d2
  simp only [lineVT, tSite, tCond, tBy, List.length_append, List.length_cons, List.length_nil]
  omega
theorem textV_len {l : List Vi} (hV : ∀ i, i < l.length → V64 (l.getD i default)) : ∀ i, i ≤ l.length → (textV (l.take i)).length ≤ 120 * i
  | 0, _ => by simp [textV]
  | i + 1, hi => by
    have ih := textV_len hV i (by omega)
    have h1 := lineVT_len (hV i (by omega))
    rw [textV_take hi, List.length_append]
    omega
theorem any_bad {l : List Vi} {i : Nat} (h : i < l.length) (hb : badV (l.getD i default)) : formatV l = ([], 3) := by
  unfold formatV
  rw [if_pos]
  exact List.any_eq_true.2 ⟨_, getD_mem h, decide_eq_true hb⟩
theorem none_bad {l : List Vi} (h : ∀ i, i < l.length → ¬ badV (l.getD i default)) : formatV l = (textV l, 0) := by
  unfold formatV
  rw [if_neg]
  intro ha
  obtain ⟨v, hv, hb⟩ := List.any_eq_true.1 ha
  obtain ⟨i, hi, rfl⟩ := List.mem_iff_getElem.1 hv
  have := h i hi
  simp only [List.getD, List.getElem?_eq_getElem hi, Option.getD_some] at this
  exact this (of_decide_eq_true hb)
theorem rows4 (a b c d : Int) : RowEq 4 (fun i => [[PV.int .i64 a], [PV.int .i64 b], [PV.int .i64 c], [PV.int .i64 d]].getD i []) (fl eInt [a, b, c, d]) := fun i hi => by
  match i, hi with
  | 0, _ => rfl
  | 1, _ => rfl
  | 2, _ => rfl
  | 3, _ => rfl
theorem rows3 (a b c : Int) : RowEq 3 (fun i => [[PV.int .i64 a], [PV.int .i64 b], [PV.int .i64 c]].getD i []) (fl eInt [a, b, c]) := fun i hi => by
  match i, hi with
  | 0, _ => rfl
  | 1, _ => rfl
  | 2, _ => rfl
set_option maxRecDepth 100000 in
set_option maxHeartbeats 8000000 in
theorem call15 (τ : Nat) (l : List Vi) (hl : l.length ≤ 1000000000) (hV : ∀ i, i < l.length → V64 (l.getD i default)) : PureCall Tryd.prog 15 [.sl τ 4 l.length (fl eVi l)] [] ⟨.tup [.str (formatV l).1, .int .i64 (formatV l).2], [], []⟩ := by
  refine pure_call mix Tryd.func15 fits15 rfl ?_
  conv => whnf
  refine ⟨trivial, ?_⟩
  refine LSem.loop (n := 74) mix (α := Nat) (fun i => i ≤ l.length ∧ ∀ k, k < i → ¬ badV (l.getD k default))
    (fun i => [(4, .pt 64 0 0), (10, .sl τ 4 l.length (fl eVi l)), (11, .int .i64 l.length), (12, .int .i64 i)])
    (fun i => [(64, .bld 73 5 (textV (l.take i)))]) (fun i => l.length - i) 0 ?_ ?_ ?_
  · exact ⟨Nat.zero_le _, fun k hk => absurd hk (Nat.not_lt_zero _)⟩
  · refine ⟨rfl, rfl, ?_, ?_⟩
    all_goals repeat' (first | exact True.intro | refine leF_cons rfl ?_ ?_ | refine leS_cons rfl ?_ ?_ | (show PLe _ _ _ _; conv => whnf) | (show SLe _ _ _ _; conv => whnf) | (show PLeL _ _ _ _; conv => whnf) | apply And.intro | rfl | exact Nat.le_refl _ | exact fun _ _ => rfl | exact rowEq0 _ _)
  · intro i hi
    obtain ⟨hi, hall⟩ := hi
    have hj : ((i : Int)).toNat = i := by omega
    conv => whnf
    refine ⟨trivial, fun hc => ?_, fun hc => ?_⟩
    · replace hc := of_decide_eq_true hc
      have hlt : i < l.length := by
        have h : (i : Int) < l.length := hc
        omega
      have hwi : IntKind.wrap .i64 ((i : Int) + 1) = ((i + 1 : Nat) : Int) := by rw [wrap64]; omega
      have hpl := textV_len hV i hi
      have hpt := textV_take hlt
      have hr := hV i hlt
      have hll := lineVT_len hr
      have hbad := any_bad hlt
      have hok : ∀ k, k < i → ¬ badV (l.getD k default) := hall
      have hok2 : ¬ badV (l.getD i default) → ∀ k, k < i + 1 → ¬ badV (l.getD k default) := fun h k hk => by
        rcases Nat.lt_or_ge k i with h2 | h2
        · exact hall k h2
        · rw [show k = i by omega]; exact h
      conv => whnf
      rw [hj]
      generalize l.getD i default = r at hpt hr hll hbad hok2 ⊢
      obtain ⟨⟨a1, a2⟩, ⟨b1, b2⟩, ⟨c1, c2⟩, ⟨d1, d2⟩⟩ := hr
      have hw := wrap64 (r.b + 2)
      generalize IntKind.wrap .i64 (r.b + 2) = B at hw ⊢
      refine ⟨?_, ?_⟩
      · (try conv => whnf)
        (repeat' (first | exact True.intro | exact fun _ h => h | refine inR64_of ?_ ?_ | apply And.intro | refine maxLen_ge ?_)) <;> (first | omega | (dsimp only; omega))
      refine LSem.loop (n := 74) mix (α := Nat) (fun j => j ≤ 4 ∧ ∀ k, k < j → 0 ≤ [r.t, r.s, r.c, B].getD k default)
        (fun j => [(4, .pt 64 0 0), (6, .pt 96 0 0), (10, .sl τ 4 l.length (fl eVi l)), (11, .int .i64 l.length), (12, .int .i64 i), (25, .os 400), (26, .int .i64 4), (27, .int .i64 j)])
        (fun j => [(64, .bld 73 5 (textV (l.take i))), (96, .box (eVi r)), (400, .row 0 3 1 4 (fl eInt [r.t, r.s, r.c, B]))]) (fun j => 4 - j) 0 ?_ ?_ ?_
      · exact ⟨Nat.zero_le _, fun k hk => absurd hk (Nat.not_lt_zero _)⟩
      · refine ⟨rfl, rfl, ?_, ?_⟩
        all_goals repeat' (first | exact True.intro | refine leF_cons rfl ?_ ?_ | refine leS_cons rfl ?_ ?_ | (show PLe _ _ _ _; conv => whnf) | (show SLe _ _ _ _; conv => whnf) | (show PLeL _ _ _ _; conv => whnf) | apply And.intro | rfl | exact Nat.le_refl _ | exact fun _ _ => rfl | exact rowEq0 _ _)
        all_goals first | exact rows4 _ _ _ _ | skip
      · intro j hj4
        obtain ⟨hj4, hp⟩ := hj4
        have hjj : ((j : Int)).toNat = j := by omega
        conv => whnf
        refine ⟨trivial, fun hc => ?_, fun hc => ?_⟩
        · replace hc := of_decide_eq_true hc
          have hjlt : j < 4 := by
            have h : (j : Int) < 4 := hc
            omega
          have hwj : IntKind.wrap .i64 ((j : Int) + 1) = ((j + 1 : Nat) : Int) := by rw [wrap64]; omega
          conv => whnf
          refine ⟨?_, fun hn => ?_, fun hn => ?_⟩
          · (try conv => whnf)
            (repeat' (first | exact True.intro | exact fun _ h => h | refine inR64_of ?_ ?_ | apply And.intro | refine maxLen_ge ?_)) <;> (first | omega | (dsimp only; omega))
          · have hb : badV r := by
              have h := of_decide_eq_true hn
              rw [hjj] at h
              have h0123 : j = 0 ∨ j = 1 ∨ j = 2 ∨ j = 3 := by omega
              unfold badV
              rcases h0123 with rfl | rfl | rfl | rfl
              · have h : r.t < 0 := h
                omega
              · have h : r.s < 0 := h
                omega
              · have h : r.c < 0 := h
                omega
              · have h : B < 0 := h
                omega
            rw [hbad hb]
            conv => whnf
            refine ⟨?_, [], ?_⟩
            · (try conv => whnf)
              (repeat' (first | exact True.intro | exact fun _ h => h | refine inR64_of ?_ ?_ | apply And.intro | refine maxLen_ge ?_)) <;> (first | omega | (dsimp only; omega))
            conv => whnf
            refine ⟨rfl, ?_, trivial, trivial⟩
            all_goals repeat' (first | exact True.intro | refine leF_cons rfl ?_ ?_ | refine leS_cons rfl ?_ ?_ | (show PLe _ _ _ _; conv => whnf) | (show SLe _ _ _ _; conv => whnf) | (show PLeL _ _ _ _; conv => whnf) | apply And.intro | rfl | exact Nat.le_refl _ | exact fun _ _ => rfl | exact rowEq0 _ _)
          · have hnn : 0 ≤ [r.t, r.s, r.c, B].getD j default := by
              have h := of_decide_eq_false hn
              rw [hjj] at h
              have h : ¬ [r.t, r.s, r.c, B].getD j default < 0 := h
              omega
            conv => whnf
            refine ⟨?_, j + 1, ⟨by omega, fun k hk => ?_⟩, by omega, rfl, rfl, ?_, ?_⟩
            · (try conv => whnf)
              (repeat' (first | exact True.intro | exact fun _ h => h | refine inR64_of ?_ ?_ | apply And.intro | refine maxLen_ge ?_)) <;> (first | omega | (dsimp only; omega))
            · rcases Nat.lt_or_ge k j with h2 | h2
              · exact hp k h2
              · rw [show k = j by omega]; exact hnn
            all_goals repeat' (first | exact True.intro | refine leF_cons rfl ?_ ?_ | refine leS_cons rfl ?_ ?_ | (show PLe _ _ _ _; conv => whnf) | (show SLe _ _ _ _; conv => whnf) | (show PLeL _ _ _ _; conv => whnf) | apply And.intro | rfl | exact Nat.le_refl _ | exact fun _ _ => rfl | exact rowEq0 _ _)
            all_goals first | exact hwj | skip
        · replace hc := of_decide_eq_false hc
          have hk : j = 4 := by
            have h : ¬ (j : Int) < 4 := hc
            omega
          subst hk
          have p0 : 0 ≤ r.t := hp 0 (by omega)
          have p1 : 0 ≤ r.s := hp 1 (by omega)
          have p2 : 0 ≤ r.c := hp 2 (by omega)
          have p3 : 0 ≤ B := hp 3 (by omega)
          conv => whnf
          refine ⟨?_, fun hm => ?_, fun hm => ?_⟩
          · (try conv => whnf)
            (repeat' (first | exact True.intro | exact fun _ h => h | refine inR64_of ?_ ?_ | apply And.intro | refine maxLen_ge ?_)) <;> (first | omega | (dsimp only; omega))
          · have hm : 99999999 < mx (mx (mx r.t r.s) r.c) r.b := of_decide_eq_true hm
            rw [mx_eq, mx_eq, mx_eq] at hm
            have hb : badV r := by unfold badV; omega
            rw [hbad hb]
            conv => whnf
            refine ⟨?_, [], ?_⟩
            · (try conv => whnf)
              (repeat' (first | exact True.intro | exact fun _ h => h | refine inR64_of ?_ ?_ | apply And.intro | refine maxLen_ge ?_)) <;> (first | omega | (dsimp only; omega))
            conv => whnf
            refine ⟨rfl, ?_, trivial, trivial⟩
            all_goals repeat' (first | exact True.intro | refine leF_cons rfl ?_ ?_ | refine leS_cons rfl ?_ ?_ | (show PLe _ _ _ _; conv => whnf) | (show SLe _ _ _ _; conv => whnf) | (show PLeL _ _ _ _; conv => whnf) | apply And.intro | rfl | exact Nat.le_refl _ | exact fun _ _ => rfl | exact rowEq0 _ _)
          · have hm : ¬ 99999999 < mx (mx (mx r.t r.s) r.c) r.b := of_decide_eq_false hm
            rw [mx_eq, mx_eq, mx_eq] at hm
            have hnb : ¬ badV r := by unfold badV; omega
            have hok3 := hok2 hnb
            have x1 := Lib.itoa_length_le r.t a1 a2
            have x2 := Lib.itoa_length_le r.s b1 b2
            have x3 := Lib.itoa_length_le r.c c1 c2
            have x4 := byT_len d1 d2
            have hbd : ∀ (T : List UInt8), T = byT r.b → textV (l.take i) ++ ([115, 116, 101, 112, 32] ++ Lib.itoa r.t ++ [32, 115, 105, 116, 101, 32] ++ Lib.itoa r.s ++ [32, 99, 111, 110, 100, 105, 116, 105, 111, 110, 32] ++ Lib.itoa r.c ++ [32, 98, 121, 32] ++ T ++ [10]) = textV (l.take (i + 1)) := fun T hT => by
              rw [hT, hpt]; rfl
            conv => whnf
            refine ⟨_, fun _ => call27 r.b d1 d2, ?_⟩
            conv => whnf
            refine ⟨?_, fun hb => ?_, fun hb => ?_⟩
            · (try conv => whnf)
              (repeat' (first | exact True.intro | exact fun _ h => h | refine inR64_of ?_ ?_ | apply And.intro | refine maxLen_ge ?_)) <;> (first | omega | (dsimp only; omega))
            · have hb : r.b = -1 := by
                have h : (r.b == -1) = true := hb
                simpa using h
              have hT : wBounds = byT r.b := by unfold byT; rw [if_pos hb]
              unfold wBounds at hT
              conv => whnf
              refine ⟨_, fun _ => call27 r.t a1 a2, ?_⟩
              conv => whnf
              refine ⟨_, fun _ => call27 r.s b1 b2, ?_⟩
              conv => whnf
              refine ⟨_, fun _ => call27 r.c c1 c2, ?_⟩
              conv => whnf
              refine ⟨_, fun _ => call32 (textV (l.take i)) ([115, 116, 101, 112, 32] ++ Lib.itoa r.t ++ [32, 115, 105, 116, 101, 32] ++ Lib.itoa r.s ++ [32, 99, 111, 110, 100, 105, 116, 105, 111, 110, 32] ++ Lib.itoa r.c ++ [32, 98, 121, 32] ++ [98, 111, 117, 110, 100, 115] ++ [10]) (by rw [← hT] at x4; simp only [List.length_append, List.length_cons, List.length_nil] at x4 ⊢; omega), ?_⟩
              have hbT := hbd _ hT
              rw [← hT] at x4
              conv => whnf
              refine ⟨rfl, ?_⟩
              conv => whnf
              refine ⟨?_, i + 1, ⟨hlt, hok3⟩, by omega, rfl, rfl, ?_, ?_⟩
              · (try conv => whnf)
                repeat' (first | exact True.intro | exact fun _ h => h | apply And.intro)
                all_goals (simp only [List.length_append, List.length_cons, List.length_nil] at x4 ⊢; omega)
              all_goals repeat' (first | exact True.intro | refine leF_cons rfl ?_ ?_ | refine leS_cons rfl ?_ ?_ | (show PLe _ _ _ _; conv => whnf) | (show SLe _ _ _ _; conv => whnf) | (show PLeL _ _ _ _; conv => whnf) | apply And.intro | rfl | exact Nat.le_refl _ | exact fun _ _ => rfl | exact rowEq0 _ _)
              all_goals first | exact hwi | exact hbT | skip
            have hb1 : ¬ r.b = -1 := by
              have h : (r.b == -1) = false := hb
              simpa using h
            conv => whnf
            refine ⟨trivial, fun hb => ?_, fun hb => ?_⟩
            · have hb : r.b = -2 := by
                have h : (r.b == -2) = true := hb
                simpa using h
              have hT : wPlan = byT r.b := by unfold byT; rw [if_neg hb1, if_pos hb]
              unfold wPlan at hT
              conv => whnf
              refine ⟨_, fun _ => call27 r.t a1 a2, ?_⟩
              conv => whnf
              refine ⟨_, fun _ => call27 r.s b1 b2, ?_⟩
              conv => whnf
              refine ⟨_, fun _ => call27 r.c c1 c2, ?_⟩
              conv => whnf
              refine ⟨_, fun _ => call32 (textV (l.take i)) ([115, 116, 101, 112, 32] ++ Lib.itoa r.t ++ [32, 115, 105, 116, 101, 32] ++ Lib.itoa r.s ++ [32, 99, 111, 110, 100, 105, 116, 105, 111, 110, 32] ++ Lib.itoa r.c ++ [32, 98, 121, 32] ++ [112, 108, 97, 110] ++ [10]) (by rw [← hT] at x4; simp only [List.length_append, List.length_cons, List.length_nil] at x4 ⊢; omega), ?_⟩
              have hbT := hbd _ hT
              rw [← hT] at x4
              conv => whnf
              refine ⟨rfl, ?_⟩
              conv => whnf
              refine ⟨?_, i + 1, ⟨hlt, hok3⟩, by omega, rfl, rfl, ?_, ?_⟩
              · (try conv => whnf)
                repeat' (first | exact True.intro | exact fun _ h => h | apply And.intro)
                all_goals (simp only [List.length_append, List.length_cons, List.length_nil] at x4 ⊢; omega)
              all_goals repeat' (first | exact True.intro | refine leF_cons rfl ?_ ?_ | refine leS_cons rfl ?_ ?_ | (show PLe _ _ _ _; conv => whnf) | (show SLe _ _ _ _; conv => whnf) | (show PLeL _ _ _ _; conv => whnf) | apply And.intro | rfl | exact Nat.le_refl _ | exact fun _ _ => rfl | exact rowEq0 _ _)
              all_goals first | exact hwi | exact hbT | skip
            have hb2 : ¬ r.b = -2 := by
              have h : (r.b == -2) = false := hb
              simpa using h
            have hT : Lib.itoa r.b = byT r.b := by unfold byT; rw [if_neg hb1, if_neg hb2]
            conv => whnf
            refine ⟨_, fun _ => call27 r.t a1 a2, ?_⟩
            conv => whnf
            refine ⟨_, fun _ => call27 r.s b1 b2, ?_⟩
            conv => whnf
            refine ⟨_, fun _ => call27 r.c c1 c2, ?_⟩
            conv => whnf
            refine ⟨_, fun _ => call32 (textV (l.take i)) ([115, 116, 101, 112, 32] ++ Lib.itoa r.t ++ [32, 115, 105, 116, 101, 32] ++ Lib.itoa r.s ++ [32, 99, 111, 110, 100, 105, 116, 105, 111, 110, 32] ++ Lib.itoa r.c ++ [32, 98, 121, 32] ++ Lib.itoa r.b ++ [10]) (by rw [← hT] at x4; simp only [List.length_append, List.length_cons, List.length_nil] at x4 ⊢; omega), ?_⟩
            have hbT := hbd _ hT
            rw [← hT] at x4
            conv => whnf
            refine ⟨rfl, ?_⟩
            conv => whnf
            refine ⟨?_, i + 1, ⟨hlt, hok3⟩, by omega, rfl, rfl, ?_, ?_⟩
            · (try conv => whnf)
              repeat' (first | exact True.intro | exact fun _ h => h | apply And.intro)
              all_goals (simp only [List.length_append, List.length_cons, List.length_nil] at x4 ⊢; omega)
            all_goals repeat' (first | exact True.intro | refine leF_cons rfl ?_ ?_ | refine leS_cons rfl ?_ ?_ | (show PLe _ _ _ _; conv => whnf) | (show SLe _ _ _ _; conv => whnf) | (show PLeL _ _ _ _; conv => whnf) | apply And.intro | rfl | exact Nat.le_refl _ | exact fun _ _ => rfl | exact rowEq0 _ _)
            all_goals first | exact hwi | exact hbT | skip
    · replace hc := of_decide_eq_false hc
      have hk : i = l.length := by
        have h : ¬ (i : Int) < l.length := hc
        omega
      subst hk
      rw [List.take_length, none_bad hall]
      conv => whnf
      refine ⟨_, fun _ => call33z (textV l), ?_⟩
      conv => whnf
      refine ⟨?_, [], ?_⟩
      · (try conv => whnf)
        (repeat' (first | exact True.intro | exact fun _ h => h | refine inR64_of ?_ ?_ | apply And.intro | refine maxLen_ge ?_)) <;> (first | omega | (dsimp only; omega))
      conv => whnf
      refine ⟨rfl, ?_, trivial, trivial⟩
      all_goals repeat' (first | exact True.intro | refine leF_cons rfl ?_ ?_ | refine leS_cons rfl ?_ ?_ | (show PLe _ _ _ _; conv => whnf) | (show SLe _ _ _ _; conv => whnf) | (show PLeL _ _ _ _; conv => whnf) | apply And.intro | rfl | exact Nat.le_refl _ | exact fun _ _ => rfl | exact rowEq0 _ _)
end Pv
end Go.Proofs.YtafnkpmoolbjjaaDoor
/- LAW 42, THE WALKS: the text of violations, the second form. -/
set_option linter.unusedSimpArgs false
set_option linter.unusedVariables false
namespace Go.Proofs.YtafnkpmoolbjjaaDoor
namespace Pv
def c11L2 : C := (.seq (.reg [⟨(some 25), 400, none, .bi false .lss (.t 24) (.t 23)⟩])
  (.seq (.cond (.t 25) .skip (.exit 2))
  (.seq (.block 3 (.seq (.reg [⟨(some 26), 416, none, .ia 1 (.t 22) (.t 24)⟩,
    ⟨(some 27), 432, none, .ld 1 false (.t 26)⟩,
    ⟨(some 8), 128, none, .mv (.t 27)⟩])
  (.seq (.reg [⟨(some 28), 448, none, .mv (.t 8)⟩,
    ⟨(some 29), 464, none, .bi false .lss (.t 28) (.c (.int .i64 0))⟩,
    ⟨(some 30), 480, none, .mv (.t 29)⟩,
    ⟨(some 31), 496, (some (30, false)), .mv (.t 8)⟩,
    ⟨(some 32), 512, (some (30, false)), .bi false .gtr (.t 31) (.c (.int .i64 99999999))⟩,
    ⟨(some 33), 528, none, .pick (.t 30) (.c (.bool true)) (.t 32)⟩])
  (.cond (.t 33) (.seq (.reg [⟨(some 2), 32, none, .mv (.c (.str []))⟩,
    ⟨(some 3), 48, none, .mv (.c (.int .i64 3))⟩])
  .ret) .skip))))
  (.reg [⟨(some 34), 544, none, .bi false .add (.t 24) (.c (.int .i64 1))⟩,
    ⟨(some 24), 384, none, .mv (.t 34)⟩]))))
def c11L1 : C := (.seq (.reg [⟨(some 13), 208, none, .bi false .lss (.t 12) (.t 11)⟩])
  (.seq (.cond (.t 13) .skip (.exit 0))
  (.seq (.block 1 (.seq (.reg [⟨(some 14), 224, none, .ia 4 (.t 10) (.t 12)⟩,
    ⟨(some 15), 240, none, .ld 4 true (.t 14)⟩,
    ⟨(some 6), 96, none, .al [(.int .i64 0), (.int .i64 0), (.int .i64 0), (.int .i64 0)]⟩,
    ⟨none, 0, none, .st 4 (.t 6) (.t 15)⟩])
  (.seq (.seq (.reg [⟨(some 16), 256, none, .fa 0 (.t 6)⟩,
    ⟨(some 17), 272, none, .ld 1 false (.t 16)⟩,
    ⟨(some 18), 288, none, .fa 1 (.t 6)⟩,
    ⟨(some 19), 304, none, .ld 1 false (.t 18)⟩,
    ⟨(some 20), 320, none, .fa 2 (.t 6)⟩,
    ⟨(some 21), 336, none, .ld 1 false (.t 20)⟩,
    ⟨(some 22), 352, none, .bs 3 1 [(.t 17), (.t 19), (.t 21)]⟩,
    ⟨(some 23), 368, none, .len (.t 22)⟩,
    ⟨(some 24), 384, none, .mv (.c (.int .i64 0))⟩])
  (.block 2 (.loop c11L2)))
  (.seq (.seq (.reg [⟨(some 35), 560, none, .fa 3 (.t 6)⟩,
    ⟨(some 36), 576, none, .ld 1 false (.t 35)⟩,
    ⟨(some 37), 592, none, .bi false .lss (.t 36) (.c (.int .i64 (-2)))⟩,
    ⟨(some 38), 608, none, .mv (.t 37)⟩,
    ⟨(some 39), 624, (some (38, false)), .fa 3 (.t 6)⟩,
    ⟨(some 40), 640, (some (38, false)), .ld 1 false (.t 39)⟩,
    ⟨(some 41), 656, (some (38, false)), .bi false .gtr (.t 40) (.c (.int .i64 99999999))⟩,
    ⟨(some 42), 672, none, .pick (.t 38) (.c (.bool true)) (.t 41)⟩])
  (.cond (.t 42) (.seq (.reg [⟨(some 2), 32, none, .mv (.c (.str []))⟩,
    ⟨(some 3), 48, none, .mv (.c (.int .i64 3))⟩])
  .ret) .skip))
  (.seq (.reg [⟨(some 43), 688, none, .fa 3 (.t 6)⟩,
    ⟨(some 44), 704, none, .ld 1 false (.t 43)⟩,
    ⟨(some 45), 720, none, .call (.c (.fn (.func 27) [] [])) [(.t 44)]⟩,
    ⟨(some 9), 144, none, .mv (.t 45)⟩])
  (.seq (.seq (.reg [⟨(some 46), 736, none, .fa 3 (.t 6)⟩,
    ⟨(some 47), 752, none, .ld 1 false (.t 46)⟩,
    ⟨(some 48), 768, none, .bi false .eql (.t 47) (.c (.int .i64 (-1)))⟩])
  (.cond (.t 48) (.reg [⟨(some 9), 144, none, .mv (.c (.str [98, 111, 117, 110, 100, 115]))⟩]) .skip))
  (.seq (.seq (.reg [⟨(some 49), 784, none, .fa 3 (.t 6)⟩,
    ⟨(some 50), 800, none, .ld 1 false (.t 49)⟩,
    ⟨(some 51), 816, none, .bi false .eql (.t 50) (.c (.int .i64 (-2)))⟩])
  (.cond (.t 51) (.reg [⟨(some 9), 144, none, .mv (.c (.str [112, 108, 97, 110]))⟩]) .skip))
  (.drw [⟨(some 52), 832, none, .mv (.t 4)⟩,
    ⟨(some 53), 848, none, .fa 0 (.t 6)⟩,
    ⟨(some 54), 864, none, .ld 1 false (.t 53)⟩,
    ⟨(some 55), 880, none, .call (.c (.fn (.func 27) [] [])) [(.t 54)]⟩,
    ⟨(some 56), 896, none, .bi false .add (.c (.str [115, 116, 101, 112, 32])) (.t 55)⟩,
    ⟨(some 57), 912, none, .bi false .add (.t 56) (.c (.str [32, 115, 105, 116, 101, 32]))⟩,
    ⟨(some 58), 928, none, .fa 1 (.t 6)⟩,
    ⟨(some 59), 944, none, .ld 1 false (.t 58)⟩,
    ⟨(some 60), 960, none, .call (.c (.fn (.func 27) [] [])) [(.t 59)]⟩,
    ⟨(some 61), 976, none, .bi false .add (.t 57) (.t 60)⟩,
    ⟨(some 62), 992, none, .bi false .add (.t 61) (.c (.str [32, 99, 111, 110, 100, 105, 116, 105, 111, 110, 32]))⟩,
    ⟨(some 63), 1008, none, .fa 2 (.t 6)⟩,
    ⟨(some 64), 1024, none, .ld 1 false (.t 63)⟩,
    ⟨(some 65), 1040, none, .call (.c (.fn (.func 27) [] [])) [(.t 64)]⟩,
    ⟨(some 66), 1056, none, .bi false .add (.t 62) (.t 65)⟩,
    ⟨(some 67), 1072, none, .bi false .add (.t 66) (.c (.str [32, 98, 121, 32]))⟩,
    ⟨(some 68), 1088, none, .mv (.t 9)⟩,
    ⟨(some 69), 1104, none, .bi false .add (.t 67) (.t 68)⟩,
    ⟨(some 70), 1120, none, .bi false .add (.t 69) (.c (.str [10]))⟩,
    ⟨(some 71), 1136, none, .bi false .add (.t 52) (.t 70)⟩,
    ⟨(some 4), 64, none, .mv (.t 71)⟩]
    [(0, 1, 52), (0, 2, 52), (0, 3, 52), (0, 4, 52), (0, 5, 52), (0, 6, 52), (0, 7, 52), (0, 8, 52), (0, 9, 52), (0, 10, 52), (0, 11, 52), (0, 12, 52), (0, 13, 52), (0, 14, 52), (0, 15, 52), (0, 16, 52), (0, 17, 52), (0, 18, 52), (1, 6, 53), (1, 7, 53), (1, 11, 53), (1, 12, 53), (1, 16, 53), (2, 6, 54), (2, 7, 54), (2, 11, 54), (2, 12, 54), (2, 16, 54), (3, 6, 55), (3, 7, 55), (3, 11, 55), (3, 12, 55), (3, 16, 55), (4, 6, 56), (4, 7, 56), (4, 8, 56), (4, 11, 56), (4, 12, 56), (4, 13, 56), (4, 16, 56), (5, 6, 57), (5, 7, 57), (5, 8, 57), (5, 11, 57), (5, 12, 57), (5, 13, 57), (5, 16, 57), (6, 11, 58), (6, 12, 58), (6, 16, 58), (7, 11, 59), (7, 12, 59), (7, 16, 59), (8, 11, 60), (8, 12, 60), (8, 16, 60), (9, 11, 61), (9, 12, 61), (9, 13, 61), (9, 16, 61), (10, 11, 62), (10, 12, 62), (10, 13, 62), (10, 16, 62), (11, 16, 63), (12, 16, 64), (13, 16, 65), (14, 16, 66), (15, 16, 67)]))))))))
  (.reg [⟨(some 72), 1152, none, .bi false .add (.t 12) (.c (.int .i64 1))⟩,
    ⟨(some 12), 192, none, .mv (.t 72)⟩]))))
def c11 : C := (.seq (.reg [⟨(some 2), 32, none, .mv (.c (.str []))⟩,
    ⟨(some 3), 48, none, .mv (.c (.int .i64 0))⟩])
  (.seq (.reg [⟨(some 4), 64, none, .mv (.c (.str []))⟩])
  (.seq (.seq (.reg [⟨(some 10), 160, none, .mv (.t 0)⟩,
    ⟨(some 11), 176, none, .len (.t 10)⟩,
    ⟨(some 12), 192, none, .mv (.c (.int .i64 0))⟩])
  (.block 0 (.loop c11L1)))
  (.seq (.reg [⟨(some 73), 1168, none, .mv (.t 4)⟩,
    ⟨(some 2), 32, none, .mv (.t 73)⟩,
    ⟨(some 3), 48, none, .mv (.c (.int .i64 0))⟩])
  .ret))))
theorem fits11 : fits Tryd.prog false Tryd.f11 1 74 [(2, none), (3, none)] = some c11.er := by kernel_rfl
set_option maxRecDepth 100000 in
set_option maxHeartbeats 8000000 in
theorem call11 (τ : Nat) (l : List Vi) (hl : l.length ≤ 1000000000) (hV : ∀ i, i < l.length → V64 (l.getD i default)) : PureCall Tryd.prog 11 [.sl τ 4 l.length (fl eVi l)] [] ⟨.tup [.str (formatV l).1, .int .i64 (formatV l).2], [], []⟩ := by
  refine pure_call mix Tryd.func11 fits11 rfl ?_
  conv => whnf
  refine ⟨trivial, ?_⟩
  refine LSem.loop (n := 74) mix (α := Nat) (fun i => i ≤ l.length ∧ ∀ k, k < i → ¬ badV (l.getD k default))
    (fun i => [(4, .str (textV (l.take i))), (10, .sl τ 4 l.length (fl eVi l)), (11, .int .i64 l.length), (12, .int .i64 i)])
    (fun i => []) (fun i => l.length - i) 0 ?_ ?_ ?_
  · exact ⟨Nat.zero_le _, fun k hk => absurd hk (Nat.not_lt_zero _)⟩
  · refine ⟨rfl, rfl, ?_, ?_⟩
    all_goals repeat' (first | exact True.intro | refine leF_cons rfl ?_ ?_ | refine leS_cons rfl ?_ ?_ | (show PLe _ _ _ _; conv => whnf) | (show SLe _ _ _ _; conv => whnf) | (show PLeL _ _ _ _; conv => whnf) | apply And.intro | rfl | exact Nat.le_refl _ | exact fun _ _ => rfl | exact rowEq0 _ _)
  · intro i hi
    obtain ⟨hi, hall⟩ := hi
    have hj : ((i : Int)).toNat = i := by omega
    conv => whnf
    refine ⟨trivial, fun hc => ?_, fun hc => ?_⟩
    · replace hc := of_decide_eq_true hc
      have hlt : i < l.length := by
        have h : (i : Int) < l.length := hc
        omega
      have hpl := textV_len hV i hi
      have hpt := textV_take hlt
      have hr := hV i hlt
      have hll := lineVT_len hr
      have hbad := any_bad hlt
      have hok2 : ¬ badV (l.getD i default) → ∀ k, k < i + 1 → ¬ badV (l.getD k default) := fun h k hk => by
        rcases Nat.lt_or_ge k i with h2 | h2
        · exact hall k h2
        · rw [show k = i by omega]; exact h
      conv => whnf
      rw [hj]
      generalize l.getD i default = r at hpt hr hll hbad hok2 ⊢
      obtain ⟨⟨a1, a2⟩, ⟨b1, b2⟩, ⟨c1, c2⟩, ⟨d1, d2⟩⟩ := hr
      refine ⟨?_, ?_⟩
      · (try conv => whnf)
        (repeat' (first | exact True.intro | exact fun _ h => h | refine inR64_of ?_ ?_ | apply And.intro | refine maxLen_ge ?_)) <;> (first | omega | decide | (dsimp only; omega) | (dsimp only [List.length_cons, List.length_nil]; omega) | (intro hg; rw [hg]; rfl) | (intro hg hh; rw [hg, hh]; rfl) | (intro hg; simp [-List.getD_eq_getElem?_getD, -Int.default_eq_zero] at hg; first | omega | (refine inR64_of ?_ ?_ <;> omega) | (constructor <;> omega)) | (simp [-List.getD_eq_getElem?_getD, -Int.default_eq_zero]; done))
      refine LSem.loop (n := 74) mix (α := Nat) (fun j => j ≤ 3 ∧ ∀ k, k < j → 0 ≤ [r.t, r.s, r.c].getD k default ∧ [r.t, r.s, r.c].getD k default ≤ 99999999)
        (fun j => [(4, .str (textV (l.take i))), (6, .pt 96 0 0), (10, .sl τ 4 l.length (fl eVi l)), (11, .int .i64 l.length), (12, .int .i64 i), (22, .os 352), (23, .int .i64 3), (24, .int .i64 j)])
        (fun j => [(96, .box (eVi r)), (352, .row 0 3 1 3 (fl eInt [r.t, r.s, r.c]))]) (fun j => 3 - j) 0 ?_ ?_ ?_
      · exact ⟨Nat.zero_le _, fun k hk => absurd hk (Nat.not_lt_zero _)⟩
      · refine ⟨rfl, rfl, ?_, ?_⟩
        all_goals repeat' (first | exact True.intro | refine leF_cons rfl ?_ ?_ | refine leS_cons rfl ?_ ?_ | (show PLe _ _ _ _; conv => whnf) | (show SLe _ _ _ _; conv => whnf) | (show PLeL _ _ _ _; conv => whnf) | apply And.intro | rfl | exact Nat.le_refl _ | exact fun _ _ => rfl | exact rowEq0 _ _)
        all_goals first | exact rows3 _ _ _ | skip
      · intro j hj4
        obtain ⟨hj4, hp⟩ := hj4
        have hjj : ((j : Int)).toNat = j := by omega
        conv => whnf
        refine ⟨trivial, fun hc => ?_, fun hc => ?_⟩
        · replace hc := of_decide_eq_true hc
          have hjlt : j < 3 := by
            have h : (j : Int) < 3 := hc
            omega
          conv => whnf
          refine ⟨?_, fun hn => ?_, fun hn => ?_⟩
          · (try conv => whnf)
            (repeat' (first | exact True.intro | exact fun _ h => h | refine inR64_of ?_ ?_ | apply And.intro | refine maxLen_ge ?_)) <;> (first | omega | decide | (dsimp only; omega) | (dsimp only [List.length_cons, List.length_nil]; omega) | (intro hg; rw [hg]; rfl) | (intro hg hh; rw [hg, hh]; rfl) | (intro hg; simp [-List.getD_eq_getElem?_getD, -Int.default_eq_zero] at hg; first | omega | (refine inR64_of ?_ ?_ <;> omega) | (constructor <;> omega)) | (simp [-List.getD_eq_getElem?_getD, -Int.default_eq_zero]; done))
          · have hb : badV r := by
              have h : (bif decide ([r.t, r.s, r.c].getD (j : Int).toNat default < 0) then true else decide (99999999 < [r.t, r.s, r.c].getD (j : Int).toNat default)) = true := hn
              simp only [bif_t, bif_f, decide_eq_true_eq, decide_eq_false_iff_not, Bool.not_eq_true', Bool.not_eq_false', Bool.and_eq_true, Bool.or_eq_true, Bool.and_eq_false_iff, Bool.or_eq_false_iff, beq_iff_eq, bne_iff_ne, beq_eq_false_iff_ne, bne_eq_false_iff_eq, reduceCtorEq, false_and, and_false, true_and, and_true, or_false, false_or, or_true, true_or, not_true_eq_false, not_false_eq_true, Int.toNat_zero] at h
              rw [hjj] at h
              have h0123 : j = 0 ∨ j = 1 ∨ j = 2 := by omega
              unfold badV
              rcases h0123 with rfl | rfl | rfl
              · have h : r.t < 0 ∨ ¬ r.t < 0 ∧ 99999999 < r.t := h
                omega
              · have h : r.s < 0 ∨ ¬ r.s < 0 ∧ 99999999 < r.s := h
                omega
              · have h : r.c < 0 ∨ ¬ r.c < 0 ∧ 99999999 < r.c := h
                omega
            rw [hbad hb]
            conv => whnf
            refine ⟨?_, [], ?_⟩
            · (try conv => whnf)
              (repeat' (first | exact True.intro | exact fun _ h => h | refine inR64_of ?_ ?_ | apply And.intro | refine maxLen_ge ?_)) <;> (first | omega | decide | (dsimp only; omega) | (dsimp only [List.length_cons, List.length_nil]; omega) | (intro hg; rw [hg]; rfl) | (intro hg hh; rw [hg, hh]; rfl) | (intro hg; simp [-List.getD_eq_getElem?_getD, -Int.default_eq_zero] at hg; first | omega | (refine inR64_of ?_ ?_ <;> omega) | (constructor <;> omega)) | (simp [-List.getD_eq_getElem?_getD, -Int.default_eq_zero]; done))
            conv => whnf
            refine ⟨rfl, ?_, trivial, trivial⟩
            all_goals repeat' (first | exact True.intro | refine leF_cons rfl ?_ ?_ | refine leS_cons rfl ?_ ?_ | (show PLe _ _ _ _; conv => whnf) | (show SLe _ _ _ _; conv => whnf) | (show PLeL _ _ _ _; conv => whnf) | apply And.intro | rfl | exact Nat.le_refl _ | exact fun _ _ => rfl | exact rowEq0 _ _)
          · have hnn : 0 ≤ [r.t, r.s, r.c].getD j default ∧ [r.t, r.s, r.c].getD j default ≤ 99999999 := by
              have h : (bif decide ([r.t, r.s, r.c].getD (j : Int).toNat default < 0) then true else decide (99999999 < [r.t, r.s, r.c].getD (j : Int).toNat default)) = false := hn
              simp only [bif_t, bif_f, decide_eq_true_eq, decide_eq_false_iff_not, Bool.not_eq_true', Bool.not_eq_false', Bool.and_eq_true, Bool.or_eq_true, Bool.and_eq_false_iff, Bool.or_eq_false_iff, beq_iff_eq, bne_iff_ne, beq_eq_false_iff_ne, bne_eq_false_iff_eq, reduceCtorEq, false_and, and_false, true_and, and_true, or_false, false_or, or_true, true_or, not_true_eq_false, not_false_eq_true, Int.toNat_zero] at h
              rw [hjj] at h
              omega
            conv => whnf
            refine ⟨?_, j + 1, ⟨by omega, fun k hk => ?_⟩, by omega, rfl, rfl, ?_, ?_⟩
            · (try conv => whnf)
              (repeat' (first | exact True.intro | exact fun _ h => h | refine inR64_of ?_ ?_ | apply And.intro | refine maxLen_ge ?_)) <;> (first | omega | decide | (dsimp only; omega) | (dsimp only [List.length_cons, List.length_nil]; omega) | (intro hg; rw [hg]; rfl) | (intro hg hh; rw [hg, hh]; rfl) | (intro hg; simp [-List.getD_eq_getElem?_getD, -Int.default_eq_zero] at hg; first | omega | (refine inR64_of ?_ ?_ <;> omega) | (constructor <;> omega)) | (simp [-List.getD_eq_getElem?_getD, -Int.default_eq_zero]; done))
            · rcases Nat.lt_or_ge k j with h2 | h2
              · exact hp k h2
              · rw [show k = j by omega]; exact hnn
            all_goals repeat' (first | exact True.intro | refine leF_cons rfl ?_ ?_ | refine leS_cons rfl ?_ ?_ | (show PLe _ _ _ _; conv => whnf) | (show SLe _ _ _ _; conv => whnf) | (show PLeL _ _ _ _; conv => whnf) | apply And.intro | rfl | exact Nat.le_refl _ | exact fun _ _ => rfl | exact rowEq0 _ _)
            all_goals first | omega | skip
        · replace hc := of_decide_eq_false hc
          have hk : j = 3 := by
            have h : ¬ (j : Int) < 3 := hc
            omega
          subst hk
          have p0 : 0 ≤ r.t ∧ r.t ≤ 99999999 := hp 0 (by omega)
          have p1 : 0 ≤ r.s ∧ r.s ≤ 99999999 := hp 1 (by omega)
          have p2 : 0 ≤ r.c ∧ r.c ≤ 99999999 := hp 2 (by omega)
          conv => whnf
          refine ⟨?_, fun hm => ?_, fun hm => ?_⟩
          · (try conv => whnf)
            (repeat' (first | exact True.intro | exact fun _ h => h | refine inR64_of ?_ ?_ | apply And.intro | refine maxLen_ge ?_)) <;> (first | omega | decide | (dsimp only; omega) | (dsimp only [List.length_cons, List.length_nil]; omega) | (intro hg; rw [hg]; rfl) | (intro hg hh; rw [hg, hh]; rfl) | (intro hg; simp [-List.getD_eq_getElem?_getD, -Int.default_eq_zero] at hg; first | omega | (refine inR64_of ?_ ?_ <;> omega) | (constructor <;> omega)) | (simp [-List.getD_eq_getElem?_getD, -Int.default_eq_zero]; done))
          · have hm : (bif decide (r.b < -2) then true else decide (99999999 < r.b)) = true := hm
            simp only [bif_t, bif_f, decide_eq_true_eq, decide_eq_false_iff_not, Bool.not_eq_true', Bool.not_eq_false', Bool.and_eq_true, Bool.or_eq_true, Bool.and_eq_false_iff, Bool.or_eq_false_iff, beq_iff_eq, bne_iff_ne, beq_eq_false_iff_ne, bne_eq_false_iff_eq, reduceCtorEq, false_and, and_false, true_and, and_true, or_false, false_or, or_true, true_or, not_true_eq_false, not_false_eq_true, Int.toNat_zero] at hm
            have hb : badV r := by unfold badV; omega
            rw [hbad hb]
            conv => whnf
            refine ⟨?_, [], ?_⟩
            · (try conv => whnf)
              (repeat' (first | exact True.intro | exact fun _ h => h | refine inR64_of ?_ ?_ | apply And.intro | refine maxLen_ge ?_)) <;> (first | omega | decide | (dsimp only; omega) | (dsimp only [List.length_cons, List.length_nil]; omega) | (intro hg; rw [hg]; rfl) | (intro hg hh; rw [hg, hh]; rfl) | (intro hg; simp [-List.getD_eq_getElem?_getD, -Int.default_eq_zero] at hg; first | omega | (refine inR64_of ?_ ?_ <;> omega) | (constructor <;> omega)) | (simp [-List.getD_eq_getElem?_getD, -Int.default_eq_zero]; done))
            conv => whnf
            refine ⟨rfl, ?_, trivial, trivial⟩
            all_goals repeat' (first | exact True.intro | refine leF_cons rfl ?_ ?_ | refine leS_cons rfl ?_ ?_ | (show PLe _ _ _ _; conv => whnf) | (show SLe _ _ _ _; conv => whnf) | (show PLeL _ _ _ _; conv => whnf) | apply And.intro | rfl | exact Nat.le_refl _ | exact fun _ _ => rfl | exact rowEq0 _ _)
          · have hm : (bif decide (r.b < -2) then true else decide (99999999 < r.b)) = false := hm
            simp only [bif_t, bif_f, decide_eq_true_eq, decide_eq_false_iff_not, Bool.not_eq_true', Bool.not_eq_false', Bool.and_eq_true, Bool.or_eq_true, Bool.and_eq_false_iff, Bool.or_eq_false_iff, beq_iff_eq, bne_iff_ne, beq_eq_false_iff_ne, bne_eq_false_iff_eq, reduceCtorEq, false_and, and_false, true_and, and_true, or_false, false_or, or_true, true_or, not_true_eq_false, not_false_eq_true, Int.toNat_zero] at hm
            have hnb : ¬ badV r := by unfold badV; omega
            have hok3 := hok2 hnb
            have x1 := Lib.itoa_length_le r.t a1 a2
            have x2 := Lib.itoa_length_le r.s b1 b2
            have x3 := Lib.itoa_length_le r.c c1 c2
            have x4 := byT_len d1 d2
            have hbd : ∀ (T : List UInt8), T = byT r.b → textV (l.take i) ++ ([115, 116, 101, 112, 32] ++ Lib.itoa r.t ++ [32, 115, 105, 116, 101, 32] ++ Lib.itoa r.s ++ [32, 99, 111, 110, 100, 105, 116, 105, 111, 110, 32] ++ Lib.itoa r.c ++ [32, 98, 121, 32] ++ T ++ [10]) = textV (l.take (i + 1)) := fun T hT => by
              rw [hT, hpt]; rfl
            conv => whnf
            refine ⟨_, fun _ => call27 r.b d1 d2, ?_⟩
            conv => whnf
            refine ⟨?_, fun hb => ?_, fun hb => ?_⟩
            · (try conv => whnf)
              (repeat' (first | exact True.intro | exact fun _ h => h | refine inR64_of ?_ ?_ | apply And.intro | refine maxLen_ge ?_)) <;> (first | omega | decide | (dsimp only; omega) | (dsimp only [List.length_cons, List.length_nil]; omega) | (intro hg; rw [hg]; rfl) | (intro hg hh; rw [hg, hh]; rfl) | (intro hg; simp [-List.getD_eq_getElem?_getD, -Int.default_eq_zero] at hg; first | omega | (refine inR64_of ?_ ?_ <;> omega) | (constructor <;> omega)) | (simp [-List.getD_eq_getElem?_getD, -Int.default_eq_zero]; done))
            · have hb : r.b = -1 := by
                have h : (r.b == -1) = true := hb
                simpa using h
              have hT : wBounds = byT r.b := by unfold byT; rw [if_pos hb]
              unfold wBounds at hT
              conv => whnf
              refine ⟨trivial, fun hb2 => absurd (beq_iff_eq.1 (show (r.b == -2) = true from hb2)) (by omega), fun _ => ?_⟩
              conv => whnf
              refine ⟨_, fun _ => call27 r.t a1 a2, ?_⟩
              conv => whnf
              refine ⟨_, fun _ => call27 r.s b1 b2, ?_⟩
              conv => whnf
              refine ⟨_, fun _ => call27 r.c c1 c2, ?_⟩
              have hbT := hbd _ hT
              rw [← hT] at x4
              conv => whnf
              refine ⟨rfl, ?_⟩
              conv => whnf
              refine ⟨?_, i + 1, ⟨hlt, hok3⟩, by omega, rfl, rfl, ?_, ?_⟩
              · (try conv => whnf)
                repeat' (first | exact True.intro | exact fun _ h => h | refine inR64_of ?_ ?_ | apply And.intro)
                all_goals first | omega | (simp only [List.length_append, List.length_cons, List.length_nil] at x4 ⊢; omega)
              all_goals repeat' (first | exact True.intro | refine leF_cons rfl ?_ ?_ | refine leS_cons rfl ?_ ?_ | (show PLe _ _ _ _; conv => whnf) | (show SLe _ _ _ _; conv => whnf) | (show PLeL _ _ _ _; conv => whnf) | apply And.intro | rfl | exact Nat.le_refl _ | exact fun _ _ => rfl | exact rowEq0 _ _)
              all_goals first | exact hbT | omega | skip
            have hb1 : ¬ r.b = -1 := by
              have h : (r.b == -1) = false := hb
              simpa using h
            conv => whnf
            refine ⟨trivial, fun hb => ?_, fun hb => ?_⟩
            · have hb : r.b = -2 := by
                have h : (r.b == -2) = true := hb
                simpa using h
              have hT : wPlan = byT r.b := by unfold byT; rw [if_neg hb1, if_pos hb]
              unfold wPlan at hT
              conv => whnf
              refine ⟨_, fun _ => call27 r.t a1 a2, ?_⟩
              conv => whnf
              refine ⟨_, fun _ => call27 r.s b1 b2, ?_⟩
              conv => whnf
              refine ⟨_, fun _ => call27 r.c c1 c2, ?_⟩
              have hbT := hbd _ hT
              rw [← hT] at x4
              conv => whnf
              refine ⟨rfl, ?_⟩
              conv => whnf
              refine ⟨?_, i + 1, ⟨hlt, hok3⟩, by omega, rfl, rfl, ?_, ?_⟩
              · (try conv => whnf)
                repeat' (first | exact True.intro | exact fun _ h => h | refine inR64_of ?_ ?_ | apply And.intro)
                all_goals first | omega | (simp only [List.length_append, List.length_cons, List.length_nil] at x4 ⊢; omega)
              all_goals repeat' (first | exact True.intro | refine leF_cons rfl ?_ ?_ | refine leS_cons rfl ?_ ?_ | (show PLe _ _ _ _; conv => whnf) | (show SLe _ _ _ _; conv => whnf) | (show PLeL _ _ _ _; conv => whnf) | apply And.intro | rfl | exact Nat.le_refl _ | exact fun _ _ => rfl | exact rowEq0 _ _)
              all_goals first | exact hbT | omega | skip
            have hb2 : ¬ r.b = -2 := by
              have h : (r.b == -2) = false := hb
              simpa using h
            have hT : Lib.itoa r.b = byT r.b := by unfold byT; rw [if_neg hb1, if_neg hb2]
            conv => whnf
            refine ⟨_, fun _ => call27 r.t a1 a2, ?_⟩
            conv => whnf
            refine ⟨_, fun _ => call27 r.s b1 b2, ?_⟩
            conv => whnf
            refine ⟨_, fun _ => call27 r.c c1 c2, ?_⟩
            have hbT := hbd _ hT
            rw [← hT] at x4
            conv => whnf
            refine ⟨rfl, ?_⟩
            conv => whnf
            refine ⟨?_, i + 1, ⟨hlt, hok3⟩, by omega, rfl, rfl, ?_, ?_⟩
            · (try conv => whnf)
              repeat' (first | exact True.intro | exact fun _ h => h | refine inR64_of ?_ ?_ | apply And.intro)
              all_goals first | omega | (simp only [List.length_append, List.length_cons, List.length_nil] at x4 ⊢; omega)
            all_goals repeat' (first | exact True.intro | refine leF_cons rfl ?_ ?_ | refine leS_cons rfl ?_ ?_ | (show PLe _ _ _ _; conv => whnf) | (show SLe _ _ _ _; conv => whnf) | (show PLeL _ _ _ _; conv => whnf) | apply And.intro | rfl | exact Nat.le_refl _ | exact fun _ _ => rfl | exact rowEq0 _ _)
            all_goals first | exact hbT | omega | skip
    · replace hc := of_decide_eq_false hc
      have hk : i = l.length := by
        have h : ¬ (i : Int) < l.length := hc
        omega
      subst hk
      rw [List.take_length, none_bad hall]
      conv => whnf
      refine ⟨?_, [], ?_⟩
      · (try conv => whnf)
        (repeat' (first | exact True.intro | exact fun _ h => h | refine inR64_of ?_ ?_ | apply And.intro | refine maxLen_ge ?_)) <;> (first | omega | decide | (dsimp only; omega) | (dsimp only [List.length_cons, List.length_nil]; omega) | (intro hg; rw [hg]; rfl) | (intro hg hh; rw [hg, hh]; rfl) | (intro hg; simp [-List.getD_eq_getElem?_getD, -Int.default_eq_zero] at hg; first | omega | (refine inR64_of ?_ ?_ <;> omega) | (constructor <;> omega)) | (simp [-List.getD_eq_getElem?_getD, -Int.default_eq_zero]; done))
      conv => whnf
      refine ⟨rfl, ?_, trivial, trivial⟩
      all_goals repeat' (first | exact True.intro | refine leF_cons rfl ?_ ?_ | refine leS_cons rfl ?_ ?_ | (show PLe _ _ _ _; conv => whnf) | (show SLe _ _ _ _; conv => whnf) | (show PLeL _ _ _ _; conv => whnf) | apply And.intro | rfl | exact Nat.le_refl _ | exact fun _ _ => rfl | exact rowEq0 _ _)
end Pv
end Go.Proofs.YtafnkpmoolbjjaaDoor
/- LAW 42, THE WALKS: what lasts longest, the second form. -/
set_option linter.unusedSimpArgs false
set_option linter.unusedVariables false
namespace Go.Proofs.YtafnkpmoolbjjaaDoor
namespace Pv
def c40L1 : C := (.seq (.reg [⟨(some 12), 192, none, .bi false .lss (.t 11) (.t 10)⟩])
  (.seq (.cond (.t 12) .skip (.exit 0))
  (.seq (.block 1 (.seq (.reg [⟨(some 13), 208, none, .ia 4 (.t 9) (.t 11)⟩,
    ⟨(some 14), 224, none, .ld 4 true (.t 13)⟩,
    ⟨(some 8), 128, none, .al [(.int .i64 0), (.int .i64 0), (.int .i64 0), (.int .i64 0)]⟩,
    ⟨none, 0, none, .st 4 (.t 8) (.t 14)⟩])
  (.seq (.reg [⟨(some 15), 240, none, .fa 1 (.t 8)⟩,
    ⟨(some 16), 256, none, .ld 1 false (.t 15)⟩,
    ⟨(some 17), 272, none, .fa 1 (.t 4)⟩,
    ⟨(some 18), 288, none, .ld 1 false (.t 17)⟩,
    ⟨(some 19), 304, none, .bi false .eql (.t 16) (.t 18)⟩,
    ⟨(some 20), 320, none, .mv (.t 19)⟩,
    ⟨(some 21), 336, (some (20, true)), .fa 2 (.t 8)⟩,
    ⟨(some 22), 352, (some (20, true)), .ld 1 false (.t 21)⟩,
    ⟨(some 23), 368, (some (20, true)), .fa 2 (.t 4)⟩,
    ⟨(some 24), 384, (some (20, true)), .ld 1 false (.t 23)⟩,
    ⟨(some 25), 400, (some (20, true)), .bi false .eql (.t 22) (.t 24)⟩,
    ⟨(some 26), 416, none, .pick (.t 20) (.t 25) (.c (.bool false))⟩,
    ⟨(some 27), 432, none, .mv (.t 26)⟩,
    ⟨(some 28), 448, (some (27, true)), .fa 0 (.t 8)⟩,
    ⟨(some 29), 464, (some (27, true)), .ld 1 false (.t 28)⟩,
    ⟨(some 30), 480, (some (27, true)), .mv (.t 2)⟩,
    ⟨(some 31), 496, (some (27, true)), .bi false .eql (.t 29) (.t 30)⟩,
    ⟨(some 32), 512, none, .pick (.t 27) (.t 31) (.c (.bool false))⟩])
  (.cond (.t 32) (.seq (.reg [⟨(some 6), 96, none, .mv (.c (.bool true))⟩])
  .ret) .skip))))
  (.reg [⟨(some 33), 528, none, .bi false .add (.t 11) (.c (.int .i64 1))⟩,
    ⟨(some 11), 176, none, .mv (.t 33)⟩]))))
def c40 : C := (.seq (.reg [⟨(some 4), 64, none, .bx 4 (.t 1)⟩,
    ⟨(some 6), 96, none, .mv (.c (.bool false))⟩])
  (.seq (.seq (.reg [⟨(some 9), 144, none, .mv (.t 0)⟩,
    ⟨(some 10), 160, none, .len (.t 9)⟩,
    ⟨(some 11), 176, none, .mv (.c (.int .i64 0))⟩])
  (.block 0 (.loop c40L1)))
  (.seq (.reg [⟨(some 6), 96, none, .mv (.c (.bool false))⟩])
  .ret)))
theorem fits40 : fits Tryd.prog false Tryd.f40 3 34 [(6, none)] = some c40.er := by kernel_rfl
def c25L2 : C := (.seq (.seq (.reg [⟨(some 16), 256, none, .fa 0 (.t 8)⟩,
    ⟨(some 17), 272, none, .ld 1 false (.t 16)⟩,
    ⟨(some 18), 288, none, .mv (.t 9)⟩,
    ⟨(some 19), 304, none, .bi false .sub (.c (.int .i64 9223372036854775807)) (.t 18)⟩,
    ⟨(some 20), 320, none, .bi false .leq (.t 17) (.t 19)⟩,
    ⟨(some 21), 336, none, .mv (.t 20)⟩,
    ⟨(some 22), 352, (some (21, true)), .mv (.t 0)⟩,
    ⟨(some 23), 368, (some (21, true)), .ld 4 true (.t 8)⟩,
    ⟨(some 24), 384, (some (21, true)), .fa 0 (.t 8)⟩,
    ⟨(some 25), 400, (some (21, true)), .ld 1 false (.t 24)⟩,
    ⟨(some 26), 416, (some (21, true)), .mv (.t 9)⟩,
    ⟨(some 27), 432, (some (21, true)), .bi false .add (.t 25) (.t 26)⟩,
    ⟨(some 28), 448, (some (21, true)), .call (.c (.fn (.func 40) [] [])) [(.t 22), (.t 23), (.t 27)]⟩,
    ⟨(some 29), 464, none, .pick (.t 21) (.t 28) (.c (.bool false))⟩])
  (.cond (.t 29) .skip (.exit 2)))
  (.block 3 (.reg [⟨(some 30), 480, none, .mv (.t 9)⟩,
    ⟨(some 31), 496, none, .bi false .add (.t 30) (.c (.int .i64 1))⟩,
    ⟨(some 9), 144, none, .mv (.t 31)⟩])))
def c25L1 : C := (.seq (.reg [⟨(some 13), 208, none, .bi false .lss (.t 12) (.t 11)⟩])
  (.seq (.cond (.t 13) .skip (.exit 0))
  (.seq (.block 1 (.seq (.reg [⟨(some 14), 224, none, .ia 4 (.t 10) (.t 12)⟩,
    ⟨(some 15), 240, none, .ld 4 true (.t 14)⟩,
    ⟨(some 8), 128, none, .al [(.int .i64 0), (.int .i64 0), (.int .i64 0), (.int .i64 0)]⟩,
    ⟨none, 0, none, .st 4 (.t 8) (.t 15)⟩])
  (.seq (.reg [⟨(some 9), 144, none, .mv (.c (.int .i64 1))⟩])
  (.seq (.block 2 (.loop c25L2))
  (.seq (.reg [⟨(some 32), 512, none, .mv (.t 9)⟩,
    ⟨(some 33), 528, none, .mv (.t 6)⟩,
    ⟨(some 34), 544, none, .bi false .gtr (.t 32) (.t 33)⟩])
  (.cond (.t 34) (.reg [⟨(some 35), 560, none, .ld 4 true (.t 8)⟩,
    ⟨(some 36), 576, none, .mv (.t 9)⟩,
    ⟨none, 0, none, .st 4 (.t 5) (.t 35)⟩,
    ⟨(some 6), 96, none, .mv (.t 36)⟩]) .skip))))))
  (.reg [⟨(some 37), 592, none, .bi false .add (.t 12) (.c (.int .i64 1))⟩,
    ⟨(some 12), 192, none, .mv (.t 37)⟩]))))
def c25 : C := (.seq (.reg [⟨(some 2), 32, none, .al [(.int .i64 0), (.int .i64 0), (.int .i64 0), (.int .i64 0)]⟩,
    ⟨(some 3), 48, none, .mv (.c (.int .i64 0))⟩,
    ⟨(some 4), 64, none, .mv (.c (.bool false))⟩])
  (.seq (.reg [⟨(some 5), 80, none, .al [(.int .i64 0), (.int .i64 0), (.int .i64 0), (.int .i64 0)]⟩])
  (.seq (.reg [⟨(some 6), 96, none, .mv (.c (.int .i64 0))⟩])
  (.seq (.seq (.reg [⟨(some 10), 160, none, .mv (.t 0)⟩,
    ⟨(some 11), 176, none, .len (.t 10)⟩,
    ⟨(some 12), 192, none, .mv (.c (.int .i64 0))⟩])
  (.block 0 (.loop c25L1)))
  (.seq (.reg [⟨(some 38), 608, none, .ld 4 true (.t 5)⟩,
    ⟨(some 39), 624, none, .mv (.t 6)⟩,
    ⟨(some 40), 640, none, .mv (.t 0)⟩,
    ⟨(some 41), 656, none, .len (.t 40)⟩,
    ⟨(some 42), 672, none, .bi false .gtr (.t 41) (.c (.int .i64 0))⟩,
    ⟨none, 0, none, .st 4 (.t 2) (.t 38)⟩,
    ⟨(some 3), 48, none, .mv (.t 39)⟩,
    ⟨(some 4), 64, none, .mv (.t 42)⟩])
  .ret)))))
theorem fits25 : fits Tryd.prog false Tryd.f25 1 43 [(2, some (4, true)), (3, none), (4, none)] = some c25.er := by kernel_rfl
set_option maxRecDepth 100000 in
set_option maxHeartbeats 4000000 in
theorem call40 (τ : Nat) (l : List Vi) (v : Vi) (t : Int) (hl : l.length ≤ 4611686018427387904) : PureCall Tryd.prog 40 [.sl τ 4 l.length (fl eVi l), .agg (eVi v), .int .i64 t] [] ⟨.bool (inV l t v.s v.c), [], []⟩ := by
  refine pure_call mix Tryd.func40 fits40 rfl ?_
  conv => whnf
  refine ⟨trivial, ?_⟩
  refine LSem.loop (n := 34) mix (α := Nat) (fun i => i ≤ l.length ∧ (l.take i).any (atV t v.s v.c) = false)
    (fun i => [(9, .sl τ 4 l.length (fl eVi l)), (10, .int .i64 l.length), (11, .int .i64 i), (4, .pt 64 0 0), (2, .int .i64 t)])
    (fun i => [(64, .box (eVi v))]) (fun i => l.length - i) 0 ?_ ?_ ?_
  · exact ⟨Nat.zero_le _, rfl⟩
  · refine ⟨rfl, rfl, ?_, ?_⟩
    all_goals repeat' (first | exact True.intro | refine leF_cons rfl ?_ ?_ | refine leS_cons rfl ?_ ?_ | (show PLe _ _ _ _; conv => whnf) | (show SLe _ _ _ _; conv => whnf) | (show PLeL _ _ _ _; conv => whnf) | apply And.intro | rfl | exact Nat.le_refl _ | exact fun _ _ => rfl | exact rowEq0 _ _)
  · intro i hi
    obtain ⟨hi, hall⟩ := hi
    have hj : ((i : Int)).toNat = i := by omega
    conv => whnf
    refine ⟨trivial, fun hc2 => ?_, fun hc2 => ?_⟩
    · replace hc2 := of_decide_eq_true hc2
      have hlt : i < l.length := by
        have h : (i : Int) < l.length := hc2
        omega
      have ht := any_take (f := atV t v.s v.c) hlt
      rw [hall, Bool.false_or] at ht
      conv => whnf
      rw [hj]
      generalize hx : l.getD i default = x at ht ⊢
      refine ⟨?_, fun h1 => ?_, fun h1 => ?_⟩
      · (try conv => whnf)
        (repeat' (first | exact True.intro | exact fun _ h => h | exact fun h => by rw [h]; rfl | apply And.intro)) <;> (first | omega | (intro h; rw [h]; rfl) | skip)
      · rw [show inV l t v.s v.c = true by
          unfold inV
          rw [List.any_eq_true]
          refine ⟨x, ?_, h1⟩
          rw [← hx]
          simp [List.getD, hlt]]
        conv => whnf
        refine ⟨?_, [], ?_⟩
        · (try conv => whnf)
          (repeat' (first | exact True.intro | exact fun _ h => h | refine inR64_of ?_ ?_ | apply And.intro | refine maxLen_ge ?_)) <;> (first | omega | (dsimp only; omega))
        conv => whnf
        refine ⟨rfl, ?_, trivial, trivial⟩
        all_goals repeat' (first | exact True.intro | refine leF_cons rfl ?_ ?_ | refine leS_cons rfl ?_ ?_ | (show PLe _ _ _ _; conv => whnf) | (show SLe _ _ _ _; conv => whnf) | (show PLeL _ _ _ _; conv => whnf) | apply And.intro | rfl | exact Nat.le_refl _ | exact fun _ _ => rfl | exact rowEq0 _ _)
      · conv => whnf
        refine ⟨?_, i + 1, ⟨hlt, by rw [ht]; exact h1⟩, ?_, rfl, rfl, ?_, ?_⟩
        · (try conv => whnf)
          (repeat' (first | exact True.intro | exact fun _ h => h | refine inR64_of ?_ ?_ | apply And.intro | refine maxLen_ge ?_)) <;> (first | omega | (dsimp only; omega))
        · omega
        all_goals repeat' (first | exact True.intro | refine leF_cons rfl ?_ ?_ | refine leS_cons rfl ?_ ?_ | (show PLe _ _ _ _; conv => whnf) | (show SLe _ _ _ _; conv => whnf) | (show PLeL _ _ _ _; conv => whnf) | apply And.intro | rfl | exact Nat.le_refl _ | exact fun _ _ => rfl | exact rowEq0 _ _)
        all_goals first | omega | skip
    · replace hc2 := of_decide_eq_false hc2
      have hk : i = l.length := by
        have h : ¬ (i : Int) < l.length := hc2
        omega
      subst hk
      rw [List.take_length] at hall
      rw [show inV l t v.s v.c = false from hall]
      conv => whnf
      refine ⟨?_, [], ?_⟩
      · (try conv => whnf)
        (repeat' (first | exact True.intro | exact fun _ h => h | refine inR64_of ?_ ?_ | apply And.intro | refine maxLen_ge ?_)) <;> (first | omega | (dsimp only; omega))
      conv => whnf
      refine ⟨rfl, ?_, trivial, trivial⟩
      all_goals repeat' (first | exact True.intro | refine leF_cons rfl ?_ ?_ | refine leS_cons rfl ?_ ?_ | (show PLe _ _ _ _; conv => whnf) | (show SLe _ _ _ _; conv => whnf) | (show PLeL _ _ _ _; conv => whnf) | apply And.intro | rfl | exact Nat.le_refl _ | exact fun _ _ => rfl | exact rowEq0 _ _)
theorem runV_pos {l : List Vi} {v : Vi} (h : v ∈ l) : 1 ≤ runV l v.t v.s v.c := by
  unfold runV runL
  rw [if_pos (inV_of h)]
  split <;> omega
theorem bestF_pos {l : List Vi} : ∀ {i : Nat}, i ≤ l.length → 0 ≤ (bestF l i).2 ∧ (0 < i → 0 < (bestF l i).2)
  | 0, _ => ⟨by simp [bestF], fun h => absurd h (Nat.lt_irrefl 0)⟩
  | i + 1, h => by
    have ih := bestF_pos (l := l) (i := i) (by omega)
    have h1 := runV_pos (getD_mem (l := l) (i := i) (by omega))
    rw [bestF_push (by omega)]
    unfold bestS
    split
    · dsimp only; exact ⟨by omega, fun _ => by omega⟩
    · rename_i hn; exact ⟨ih.1, fun _ => by omega⟩
theorem bestF_ok (l : List Vi) : decide (0 < (bestF l l.length).2) = decide (0 < (l.length : Int)) := by
  have h := bestF_pos (l := l) (Nat.le_refl l.length)
  by_cases h0 : 0 < l.length
  · rw [decide_eq_true (h.2 h0), decide_eq_true (by omega)]
  · have e : l.length = 0 := by omega
    rw [decide_eq_false (p := 0 < (l.length : Int)) (by omega), e]; rfl
structure RunI (l : List Vi) (t s c : Int) (n : Nat) : Prop where
  n1 : 1 ≤ n
  le : t + n ≤ 9223372036854775808
  all : ∀ i : Nat, i < n → inV l (t + i) s c = true
  top : t + n = 9223372036854775808 → n = runV l t s c
  go : t + n < 9223372036854775808 → n + runL l s c (l.length + 1 - n) (t + n) = runV l t s c
theorem RunI.start {l : List Vi} {v : Vi} (h : v ∈ l) (ht : v.t ≤ 9223372036854775807) : RunI l v.t v.s v.c 1 := by
  have e : runV l v.t v.s v.c = if v.t = 9223372036854775807 then 1 else 1 + runL l v.s v.c l.length (v.t + 1) := by
    unfold runV
    conv => lhs; unfold runL
    rw [if_pos (inV_of h)]
  refine ⟨Nat.le_refl _, by omega, fun i hi => ?_, fun h2 => ?_, fun h2 => ?_⟩
  · rw [show i = 0 by omega]; simpa using inV_of h
  · rw [e, if_pos (by omega)]
  · rw [e, if_neg (by omega)]; rfl
theorem RunI.next {l : List Vi} {t s c : Int} {n : Nat} (h : RunI l t s c n) (ht : t + n ≤ 9223372036854775807) (hin : inV l (t + n) s c = true) : RunI l t s c (n + 1) := by
  have hall : ∀ i : Nat, i < n + 1 → inV l (t + i) s c = true := fun i hi => by
    rcases Nat.lt_or_ge i n with h2 | h2
    · exact h.all i h2
    · rw [show i = n by omega]; exact hin
  have hkl := inV_run hall
  have hg := h.go (by omega)
  obtain ⟨m, hm⟩ : ∃ m, l.length + 1 - n = m + 1 := ⟨l.length - n, by omega⟩
  rw [hm] at hg
  unfold runL at hg
  rw [if_pos hin] at hg
  refine ⟨by omega, by omega, hall, fun h2 => ?_, fun h2 => ?_⟩
  · rw [if_pos (by omega)] at hg; omega
  · rw [if_neg (by omega)] at hg
    rw [← hg, show l.length + 1 - (n + 1) = m by omega, show t + ((n + 1 : Nat) : Int) = t + n + 1 by omega]; omega
theorem RunI.stop {l : List Vi} {t s c : Int} {n : Nat} (h : RunI l t s c n) (hx : ¬ (t + n ≤ 9223372036854775807 ∧ inV l (t + n) s c = true)) : n = runV l t s c := by
  by_cases ht : t + n = 9223372036854775808
  · exact h.top ht
  · have h1 := h.le
    have hg := h.go (by omega)
    have hin : ¬ inV l (t + n) s c = true := fun hi => hx ⟨by omega, hi⟩
    by_cases hm : l.length + 1 - n = 0
    · rw [hm] at hg; exact hg
    · obtain ⟨m, hm⟩ : ∃ m, l.length + 1 - n = m + 1 := ⟨l.length - n, by omega⟩
      rw [hm] at hg
      unfold runL at hg
      rw [if_neg hin] at hg
      exact hg
set_option maxRecDepth 100000 in
set_option maxHeartbeats 8000000 in
theorem call25 (τ : Nat) (l : List Vi) (hl : l.length ≤ 4611686018427387904) (hV64 : ∀ i, i < l.length → -9223372036854775808 ≤ (l.getD i default).t ∧ (l.getD i default).t ≤ 9223372036854775807) :
    PureCall Tryd.prog 25 [.sl τ 4 l.length (fl eVi l)] [] ⟨.tup [.agg (eVi (bestF l l.length).1), .int .i64 (bestF l l.length).2, .bool (decide (0 < (bestF l l.length).2))], [], []⟩ := by
  rw [bestF_ok]
  refine pure_call mix Tryd.func25 fits25 rfl ?_
  conv => whnf
  refine ⟨trivial, ?_⟩
  refine LSem.loop (n := 43) mix (α := Nat) (fun i => i ≤ l.length)
    (fun i => [(0, .sl τ 4 l.length (fl eVi l)), (2, .pt 32 0 0), (5, .pt 80 0 0), (6, .int .i64 (bestF l i).2), (10, .sl τ 4 l.length (fl eVi l)), (11, .int .i64 l.length), (12, .int .i64 i)])
    (fun i => [(32, .box (eVi vi0)), (80, .box (eVi (bestF l i).1))]) (fun i => l.length - i) 0 ?_ ?_ ?_
  · exact Nat.zero_le _
  · refine ⟨rfl, rfl, ?_, ?_⟩
    all_goals repeat' (first | exact True.intro | refine leF_cons rfl ?_ ?_ | refine leS_cons rfl ?_ ?_ | (show PLe _ _ _ _; conv => whnf) | (show SLe _ _ _ _; conv => whnf) | (show PLeL _ _ _ _; conv => whnf) | apply And.intro | rfl | exact Nat.le_refl _ | exact fun _ _ => rfl | exact rowEq0 _ _)
  · intro i hi
    have hj : ((i : Int)).toNat = i := by omega
    conv => whnf
    refine ⟨trivial, fun hc => ?_, fun hc => ?_⟩
    · replace hc := of_decide_eq_true hc
      have hlt : i < l.length := by
        have h : (i : Int) < l.length := hc
        omega
      have hbp := bestF_push hlt
      have hv64 := hV64 i hlt
      have hmem := getD_mem hlt
      conv => whnf
      rw [hj]
      generalize l.getD i default = v at hbp hv64 hmem ⊢
      have hst := RunI.start hmem hv64.2
      unfold bestS at hbp
      refine ⟨?_, ?_⟩
      · (try conv => whnf)
        (repeat' (first | exact True.intro | exact fun _ h => h | refine inR64_of ?_ ?_ | apply And.intro | refine maxLen_ge ?_)) <;> (first | omega | (dsimp only; omega))
      refine LSem.loop (n := 43) mix (α := Nat) (fun n => RunI l v.t v.s v.c n)
        (fun n => [(0, .sl τ 4 l.length (fl eVi l)), (2, .pt 32 0 0), (5, .pt 80 0 0), (6, .int .i64 (bestF l i).2), (8, .pt 128 0 0), (9, .int .i64 n), (10, .sl τ 4 l.length (fl eVi l)), (11, .int .i64 l.length), (12, .int .i64 i)])
        (fun n => [(32, .box (eVi vi0)), (80, .box (eVi (bestF l i).1)), (128, .box (eVi v))]) (fun n => l.length + 1 - n) 1 ?_ ?_ ?_
      · exact hst
      · refine ⟨rfl, rfl, ?_, ?_⟩
        all_goals repeat' (first | exact True.intro | refine leF_cons rfl ?_ ?_ | refine leS_cons rfl ?_ ?_ | (show PLe _ _ _ _; conv => whnf) | (show SLe _ _ _ _; conv => whnf) | (show PLeL _ _ _ _; conv => whnf) | apply And.intro | rfl | exact Nat.le_refl _ | exact fun _ _ => rfl | exact rowEq0 _ _)
      · intro n hn
        have hn1 := hn.n1
        have hnl := inV_run hn.all
        have hnx := hn.next
        have hns := hn.stop
        conv => whnf
        refine ⟨_, fun _ => call40 _ l v (v.t + n) hl, ?_⟩
        conv => whnf
        refine ⟨?_, fun hx => ?_, fun hx => ?_⟩
        · (try conv => whnf)
          (repeat' (first | exact True.intro | exact fun _ h => h | refine inR64_of ?_ ?_ | apply And.intro | refine maxLen_ge ?_)) <;> (first | omega | decide | (dsimp only; omega) | (dsimp only [List.length_cons, List.length_nil]; omega) | (intro hg; rw [hg]; rfl) | (intro hg hh; rw [hg, hh]; rfl) | (intro hg; simp [-List.getD_eq_getElem?_getD, -Int.default_eq_zero] at hg; first | omega | (refine inR64_of ?_ ?_ <;> omega) | (constructor <;> omega)) | (simp [-List.getD_eq_getElem?_getD, -Int.default_eq_zero]; done))
        · have hx : (bif decide (v.t ≤ 9223372036854775807 - (n : Int)) then inV l (v.t + n) v.s v.c else false) = true := hx
          simp only [bif_t, bif_f, decide_eq_true_eq, decide_eq_false_iff_not, Bool.not_eq_true', Bool.not_eq_false', Bool.and_eq_true, Bool.or_eq_true, Bool.and_eq_false_iff, Bool.or_eq_false_iff, beq_iff_eq, bne_iff_ne, beq_eq_false_iff_ne, bne_eq_false_iff_eq, reduceCtorEq, false_and, and_false, true_and, and_true, or_false, false_or, or_true, true_or, not_true_eq_false, not_false_eq_true, Int.toNat_zero] at hx
          conv => whnf
          refine ⟨?_, n + 1, hnx (by omega) hx.2, ?_, rfl, rfl, ?_, ?_⟩
          · (try conv => whnf)
            (repeat' (first | exact True.intro | exact fun _ h => h | refine inR64_of ?_ ?_ | apply And.intro | refine maxLen_ge ?_)) <;> (first | omega | (dsimp only; omega))
          · omega
          all_goals repeat' (first | exact True.intro | refine leF_cons rfl ?_ ?_ | refine leS_cons rfl ?_ ?_ | (show PLe _ _ _ _; conv => whnf) | (show SLe _ _ _ _; conv => whnf) | (show PLeL _ _ _ _; conv => whnf) | apply And.intro | rfl | exact Nat.le_refl _ | exact fun _ _ => rfl | exact rowEq0 _ _)
          all_goals first | omega | skip
        · have hx : (bif decide (v.t ≤ 9223372036854775807 - (n : Int)) then inV l (v.t + n) v.s v.c else false) = false := hx
          have hrv : n = runV l v.t v.s v.c := hns fun ⟨h1, h2⟩ => by
            rw [decide_eq_true (show v.t ≤ 9223372036854775807 - (n : Int) by omega), h2] at hx; cases hx
          rw [← hrv] at hbp
          conv => whnf
          refine ⟨?_, fun hg => ?_, fun hg => ?_⟩
          · (try conv => whnf)
            (repeat' (first | exact True.intro | exact fun _ h => h | refine inR64_of ?_ ?_ | apply And.intro | refine maxLen_ge ?_)) <;> (first | omega | (dsimp only; omega))
          · have hg' : (n : Int) > (bestF l i).2 := of_decide_eq_true hg
            rw [if_pos hg'] at hbp
            conv => whnf
            refine ⟨?_, i + 1, hlt, ?_, rfl, rfl, ?_, ?_⟩
            · (try conv => whnf)
              (repeat' (first | exact True.intro | exact fun _ h => h | refine inR64_of ?_ ?_ | apply And.intro | refine maxLen_ge ?_)) <;> (first | omega | (dsimp only; omega))
            · omega
            all_goals repeat' (first | exact True.intro | refine leF_cons rfl ?_ ?_ | refine leS_cons rfl ?_ ?_ | (show PLe _ _ _ _; conv => whnf) | (show SLe _ _ _ _; conv => whnf) | (show PLeL _ _ _ _; conv => whnf) | apply And.intro | rfl | exact Nat.le_refl _ | exact fun _ _ => rfl | exact rowEq0 _ _)
            all_goals first | (rw [hbp]; done) | omega | skip
          · have hg' : ¬ (n : Int) > (bestF l i).2 := of_decide_eq_false hg
            rw [if_neg hg'] at hbp
            conv => whnf
            refine ⟨?_, i + 1, hlt, ?_, rfl, rfl, ?_, ?_⟩
            · (try conv => whnf)
              (repeat' (first | exact True.intro | exact fun _ h => h | refine inR64_of ?_ ?_ | apply And.intro | refine maxLen_ge ?_)) <;> (first | omega | (dsimp only; omega))
            · omega
            all_goals repeat' (first | exact True.intro | refine leF_cons rfl ?_ ?_ | refine leS_cons rfl ?_ ?_ | (show PLe _ _ _ _; conv => whnf) | (show SLe _ _ _ _; conv => whnf) | (show PLeL _ _ _ _; conv => whnf) | apply And.intro | rfl | exact Nat.le_refl _ | exact fun _ _ => rfl | exact rowEq0 _ _)
            all_goals first | (rw [hbp]; done) | omega | skip
    · replace hc := of_decide_eq_false hc
      have hk : i = l.length := by
        have h : ¬ (i : Int) < l.length := hc
        omega
      subst hk
      conv => whnf
      refine ⟨?_, [], ?_⟩
      · (try conv => whnf)
        (repeat' (first | exact True.intro | exact fun _ h => h | refine inR64_of ?_ ?_ | apply And.intro | refine maxLen_ge ?_)) <;> (first | omega | (dsimp only; omega))
      conv => whnf
      refine ⟨rfl, ?_, trivial, trivial⟩
      all_goals repeat' (first | exact True.intro | refine leF_cons rfl ?_ ?_ | refine leS_cons rfl ?_ ?_ | (show PLe _ _ _ _; conv => whnf) | (show SLe _ _ _ _; conv => whnf) | (show PLeL _ _ _ _; conv => whnf) | apply And.intro | rfl | exact Nat.le_refl _ | exact fun _ _ => rfl | exact rowEq0 _ _)
end Pv
end Go.Proofs.YtafnkpmoolbjjaaDoor
/- LAW 42, THE WALKS: made violations. -/
set_option linter.unusedSimpArgs false
set_option linter.unusedVariables false
namespace Go.Proofs.YtafnkpmoolbjjaaDoor
namespace Pv
def c9L1 : C := (.seq (.seq (.reg [⟨(some 10), 160, none, .mv (.t 6)⟩,
    ⟨(some 11), 176, none, .bi false .gtr (.t 10) (.c (.int .i64 0))⟩])
  (.cond (.t 11) .skip (.exit 0)))
  (.seq (.block 1 (.seq (.reg [⟨(some 14), 224, none, .mv (.t 0)⟩,
    ⟨(some 15), 240, none, .call (.c (.fn (.func 26) [] [])) [(.t 14), (.c (.int .i64 9))]⟩,
    ⟨(some 16), 256, none, .mv (.t 0)⟩,
    ⟨(some 17), 272, none, .call (.c (.fn (.func 26) [] [])) [(.t 16), (.c (.int .i64 4))]⟩,
    ⟨(some 18), 288, none, .mv (.t 0)⟩,
    ⟨(some 19), 304, none, .call (.c (.fn (.func 26) [] [])) [(.t 18), (.c (.int .i64 6))]⟩,
    ⟨(some 20), 320, none, .mv (.t 0)⟩,
    ⟨(some 21), 336, none, .call (.c (.fn (.func 26) [] [])) [(.t 20), (.c (.int .i64 8))]⟩,
    ⟨(some 22), 352, none, .bi false .sub (.t 21) (.c (.int .i64 2))⟩,
    ⟨(some 23), 368, none, .bd [(.int .i64 0), (.int .i64 0), (.int .i64 0), (.int .i64 0)] [(0, 1, (.t 15)), (1, 1, (.t 17)), (2, 1, (.t 19)), (3, 1, (.t 22))]⟩,
    ⟨(some 7), 112, none, .al [(.int .i64 0), (.int .i64 0), (.int .i64 0), (.int .i64 0)]⟩,
    ⟨none, 0, none, .st 4 (.t 7) (.t 23)⟩])
  (.seq (.seq (.reg [⟨(some 24), 384, none, .fa 1 (.t 7)⟩,
    ⟨(some 25), 400, none, .ld 1 false (.t 24)⟩,
    ⟨(some 26), 416, none, .mv (.t 1)⟩,
    ⟨(some 27), 432, none, .len (.t 26)⟩,
    ⟨(some 28), 448, none, .bi false .lss (.t 25) (.t 27)⟩,
    ⟨(some 29), 464, none, .mv (.t 28)⟩,
    ⟨(some 30), 480, (some (29, true)), .mv (.t 1)⟩,
    ⟨(some 31), 496, (some (29, true)), .fa 1 (.t 7)⟩,
    ⟨(some 32), 512, (some (29, true)), .ld 1 false (.t 31)⟩,
    ⟨(some 33), 528, (some (29, true)), .ia 1 (.t 30) (.t 32)⟩,
    ⟨(some 34), 544, (some (29, true)), .ld 1 false (.t 33)⟩,
    ⟨(some 35), 560, (some (29, true)), .len (.t 34)⟩,
    ⟨(some 36), 576, (some (29, true)), .bi false .gtr (.t 35) (.c (.int .i64 0))⟩,
    ⟨(some 37), 592, none, .pick (.t 29) (.t 36) (.c (.bool false))⟩,
    ⟨(some 38), 608, none, .mv (.t 37)⟩,
    ⟨(some 39), 624, (some (38, true)), .mv (.t 0)⟩,
    ⟨(some 40), 640, (some (38, true)), .call (.c (.fn (.func 26) [] [])) [(.t 39), (.c (.int .i64 4))]⟩,
    ⟨(some 41), 656, (some (38, true)), .bi false .gtr (.t 40) (.c (.int .i64 0))⟩,
    ⟨(some 42), 672, none, .pick (.t 38) (.t 41) (.c (.bool false))⟩])
  (.cond (.t 42) (.reg [⟨(some 43), 688, none, .mv (.t 0)⟩,
    ⟨(some 44), 704, none, .mv (.t 1)⟩,
    ⟨(some 45), 720, none, .fa 1 (.t 7)⟩,
    ⟨(some 46), 736, none, .ld 1 false (.t 45)⟩,
    ⟨(some 47), 752, none, .ia 1 (.t 44) (.t 46)⟩,
    ⟨(some 48), 768, none, .ld 1 false (.t 47)⟩,
    ⟨(some 49), 784, none, .len (.t 48)⟩,
    ⟨(some 50), 800, none, .call (.c (.fn (.func 26) [] [])) [(.t 43), (.t 49)]⟩,
    ⟨(some 51), 816, none, .fa 2 (.t 7)⟩,
    ⟨none, 0, none, .st 1 (.t 51) (.t 50)⟩]) .skip))
  (.reg [⟨(some 52), 832, none, .mv (.t 5)⟩,
    ⟨(some 53), 848, none, .ld 4 true (.t 7)⟩,
    ⟨(some 54), 864, none, .bs 41 4 [(.t 53)]⟩,
    ⟨(some 55), 880, none, .app 41 4 32 (.t 52) (.t 54)⟩,
    ⟨(some 5), 80, none, .mv (.t 55)⟩]))))
  (.reg [⟨(some 12), 192, none, .mv (.t 6)⟩,
    ⟨(some 13), 208, none, .bi false .sub (.t 12) (.c (.int .i64 1))⟩,
    ⟨(some 6), 96, none, .mv (.t 13)⟩])))
def c9 : C := (.seq (.reg [⟨(some 4), 64, none, .mv (.c (.nil 4))⟩])
  (.seq (.reg [⟨(some 5), 80, none, .mv (.c (.nil 4))⟩])
  (.seq (.seq (.reg [⟨(some 8), 128, none, .mv (.t 0)⟩,
    ⟨(some 9), 144, none, .call (.c (.fn (.func 26) [] [])) [(.t 8), (.c (.int .i64 9))]⟩,
    ⟨(some 6), 96, none, .mv (.t 9)⟩])
  (.block 0 (.loop c9L1)))
  (.seq (.reg [⟨(some 56), 896, none, .mv (.t 5)⟩,
    ⟨(some 4), 64, none, .mv (.t 56)⟩])
  .ret))))
theorem fits9 : fits Tryd.prog false Tryd.f9 2 57 [(4, none)] = some c9.er := by kernel_rfl
structure Cd where
  r : Int
  k : Int
  v : Int
  f : Int
  u : Int
  a : Int
  b : Int
  deriving DecidableEq
instance : Inhabited Cd := ⟨⟨0, 0, 0, 0, 0, 0, 0⟩⟩
def eCd (r : Cd) : List PV := [.int .i64 r.r, .int .i64 r.k, .int .i64 r.v, .int .i64 r.f, .int .i64 r.u, .int .i64 r.a, .int .i64 r.b]
def eCs (σ : Nat) (l : List Cd) : List PV := [.sl σ 7 l.length (fl eCd l)]
def it {α : Type} (f : α → α) : Nat → α → α
  | 0, s => s
  | n + 1, s => it f n (f s)
def vioS (C : List (List Cd)) (d : Dk) : Vi × Dk :=
  let d1 := nxtD d 9
  let d2 := nxtD d1 4
  let d3 := nxtD d2 6
  let d4 := nxtD d3 8
  let d5 := nxtD d4 4
  let n : Int := (C.getD (nxt d1 4).toNat default).length
  if nxt d1 4 < C.length ∧ 0 < n then
    if 0 < nxt d4 4 then (⟨nxt d 9, nxt d1 4, nxt d5 n, nxt d3 8 - 2⟩, nxtD d5 n) else (⟨nxt d 9, nxt d1 4, nxt d2 6, nxt d3 8 - 2⟩, d5)
  else (⟨nxt d 9, nxt d1 4, nxt d2 6, nxt d3 8 - 2⟩, d4)
def vioN (C : List (List Cd)) (s : List Vi × Dk) : List Vi × Dk := (s.1 ++ [(vioS C s.2).1], (vioS C s.2).2)
def vioF (C : List (List Cd)) (d : Dk) : List Vi × Dk := it (vioN C) (nxt d 9).toNat ([], nxtD d 9)
def GoodV (v : Vi) : Prop := (0 ≤ v.t ∧ v.t ≤ 8) ∧ (0 ≤ v.s ∧ v.s ≤ 3) ∧ (0 ≤ v.c ∧ v.c ≤ 99999999) ∧ (-2 ≤ v.b ∧ v.b ≤ 5)
theorem vioS_ok {C : List (List Cd)} (hC : ∀ i, i < C.length → (C.getD i default).length ≤ 99999999) (d : Dk) : GoodV (vioS C d).1 ∧ (vioS C d).2.at_ ≤ d.at_ + 6 := by
  have r1 := nxt_lt d (n := 9) (by omega)
  have a1 := nxtD_at d 9
  have r2 := nxt_lt (nxtD d 9) (n := 4) (by omega)
  have a2 := nxtD_at (nxtD d 9) 4
  unfold vioS
  dsimp only
  generalize nxt (nxtD d 9) 4 = s at r2 ⊢
  generalize nxtD (nxtD d 9) 4 = d2 at a2 ⊢
  have r3 := nxt_lt d2 (n := 6) (by omega)
  have a3 := nxtD_at d2 6
  generalize nxtD d2 6 = d3 at a3 ⊢
  have r4 := nxt_lt d3 (n := 8) (by omega)
  have a4 := nxtD_at d3 8
  generalize nxtD d3 8 = d4 at a4 ⊢
  have a5 := nxtD_at d4 4
  generalize nxtD d4 4 = d5 at a5 ⊢
  split
  · rename_i h
    have h9 := hC s.toNat (by omega)
    have r6 := nxt_lt d5 h.2
    have a6 := nxtD_at d5 ((C.getD s.toNat default).length : Int)
    split
    · unfold GoodV; dsimp only; omega
    · unfold GoodV; dsimp only; omega
  · unfold GoodV; dsimp only; omega
theorem it_ok {C : List (List Cd)} (hC : ∀ i, i < C.length → (C.getD i default).length ≤ 99999999) : ∀ (n : Nat) (s : List Vi × Dk), (∀ i, i < s.1.length → GoodV (s.1.getD i default)) →
    (it (vioN C) n s).1.length = s.1.length + n ∧ (∀ i, i < (it (vioN C) n s).1.length → GoodV ((it (vioN C) n s).1.getD i default)) ∧ (it (vioN C) n s).2.at_ ≤ s.2.at_ + 6 * n
  | 0, s, h => ⟨rfl, h, Nat.le_refl _⟩
  | n + 1, s, h => by
    have h1 := vioS_ok hC s.2
    have hp : ∀ i, i < (vioN C s).1.length → GoodV ((vioN C s).1.getD i default) := fun i hi => by
      unfold vioN at hi ⊢
      dsimp only at hi ⊢
      rw [List.length_append, List.length_cons, List.length_nil] at hi
      by_cases hi2 : i < s.1.length
      · have := h i hi2
        rw [List.getD_eq_getElem?_getD] at this ⊢
        rw [List.getElem?_append_left hi2]; exact this
      · have hi3 : i = s.1.length := by omega
        subst hi3
        rw [List.getD_eq_getElem?_getD, List.getElem?_append_right (Nat.le_refl _), Nat.sub_self]
        exact h1.1
    have ih := it_ok hC n (vioN C s) hp
    have e1 : (vioN C s).1.length = s.1.length + 1 := by simp [vioN]
    have e2 : (vioN C s).2 = (vioS C s.2).2 := rfl
    unfold it
    rw [e1, e2] at ih
    exact ⟨by omega, ih.2.1, by omega⟩
theorem vioF_ok {C : List (List Cd)} (hC : ∀ i, i < C.length → (C.getD i default).length ≤ 99999999) (d : Dk) :
    (vioF C d).1.length ≤ 8 ∧ (∀ i, i < (vioF C d).1.length → GoodV ((vioF C d).1.getD i default)) ∧ (vioF C d).2.at_ ≤ d.at_ + 60 := by
  have r1 := nxt_lt d (n := 9) (by omega)
  have a1 := nxtD_at d 9
  have h := it_ok hC (nxt d 9).toNat ([], nxtD d 9) (fun i hi => absurd hi (Nat.not_lt_zero _))
  unfold vioF
  simp only [List.length_nil] at h
  generalize it (vioN C) (nxt d 9).toNat ([], nxtD d 9) = W at h ⊢
  exact ⟨by omega, h.2.1, by omega⟩
set_option maxRecDepth 100000 in
set_option maxHeartbeats 16000000 in
theorem call9 (τ σ : Nat) (C : List (List Cd)) (d : Dk) (hd : d.at_ ≤ 900000) (hl : C.length ≤ 99999999) (hC : ∀ i, i < C.length → (C.getD i default).length ≤ 99999999) :
    PureCall Tryd.prog 9 [.pt 0 0 0, .sl τ 1 C.length (fl (eCs σ) C)] [.box (eDk 1 d)] ⟨.sl 0 4 (vioF C d).1.length (fl eVi (vioF C d).1), [.box (eDk 1 (vioF C d).2)], []⟩ := by
  refine pure_call mix Tryd.func9 fits9 rfl ?_
  conv => whnf
  refine ⟨_, fun _ => call_next 1 d 9 (by omega) (by omega), ?_⟩
  have r0 := nxt_lt d (n := 9) (by omega)
  have a0 := nxtD_at d 9
  unfold vioF
  obtain ⟨m0, hm0⟩ : ∃ m : Nat, (m : Int) = nxt d 9 := ⟨(nxt d 9).toNat, by omega⟩
  rw [← hm0] at r0 ⊢
  rw [Int.toNat_natCast]
  generalize nxtD d 9 = d0 at a0 ⊢
  conv => whnf
  refine ⟨?_, ?_⟩
  · (try conv => whnf)
    (repeat' (first | exact True.intro | exact fun _ h => h | refine inR64_of ?_ ?_ | apply And.intro | refine maxLen_ge ?_)) <;> (first | omega | (dsimp only; omega))
  refine LSem.adopt 5 1000000 41 4 4 rfl rfl ?_
  refine LSem.loop (n := 57) mix (α := Nat × List Vi × Dk) (fun s => s.1 + s.2.1.length = m0 ∧ it (vioN C) s.1 s.2 = it (vioN C) m0 ([], d0) ∧ s.2.2.at_ ≤ 901000 + 10 * s.2.1.length)
    (fun s => [(0, .pt 0 0 0), (1, .sl τ 1 C.length (fl (eCs σ) C)), (5, .os 1000000), (6, .int .i64 s.1)])
    (fun s => [(0, .box (eDk 1 s.2.2)), (1000000, .row 0 41 4 s.2.1.length (fl eVi s.2.1))]) (fun s => s.1) (m0, [], d0) ?_ ?_ ?_
  · exact ⟨rfl, rfl, by dsimp only; omega⟩
  · refine ⟨rfl, rfl, ?_, ?_⟩
    all_goals repeat' (first | exact True.intro | refine leF_cons rfl ?_ ?_ | refine leS_cons rfl ?_ ?_ | (show PLe _ _ _ _; conv => whnf) | (show SLe _ _ _ _; conv => whnf) | (show PLeL _ _ _ _; conv => whnf) | apply And.intro | rfl | exact Nat.le_refl _ | exact fun _ _ => rfl | exact rowEq0 _ _)
  · intro s hs
    obtain ⟨m, l, e⟩ := s
    obtain ⟨k1, k2, k3⟩ := hs
    dsimp only at k1 k2 k3
    conv => whnf
    refine ⟨trivial, fun hc => ?_, fun hc => ?_⟩
    · replace hc := of_decide_eq_true hc
      obtain ⟨m, rfl⟩ : ∃ m', m = m' + 1 := ⟨m - 1, by
        have h : (0 : Int) < m := hc
        omega⟩
      have hvs := vioS_ok hC e
      have hst : it (vioN C) m (l ++ [(vioS C e).1], (vioS C e).2) = it (vioN C) m0 ([], d0) := k2
      have q := fl_push eVi l (vioS C e).1
      have hxl : (l ++ [(vioS C e).1]).length = l.length + 1 := by simp
      have hVS : vioS C e = vioS C e := rfl
      conv at hVS => rhs; unfold vioS
      dsimp only at hVS
      generalize hW : vioS C e = W at hvs hst q hxl hVS
      conv => whnf
      refine ⟨_, fun _ => call_next 1 e 9 (by omega) (by omega), ?_⟩
      have r1 := nxt_lt e (n := 9) (by omega)
      have a1 := nxtD_at e 9
      generalize nxt e 9 = t at r1 hVS ⊢
      generalize nxtD e 9 = e1 at a1 hVS ⊢
      conv => whnf
      refine ⟨_, fun _ => call_next 1 e1 4 (by omega) (by omega), ?_⟩
      have r2 := nxt_lt e1 (n := 4) (by omega)
      have a2 := nxtD_at e1 4
      obtain ⟨s, hs⟩ : ∃ s : Nat, (s : Int) = nxt e1 4 := ⟨(nxt e1 4).toNat, by omega⟩
      rw [← hs] at r2 hVS ⊢
      generalize nxtD e1 4 = e2 at a2 hVS ⊢
      conv => whnf
      refine ⟨_, fun _ => call_next 1 e2 6 (by omega) (by omega), ?_⟩
      have r3 := nxt_lt e2 (n := 6) (by omega)
      have a3 := nxtD_at e2 6
      generalize nxt e2 6 = c at r3 hVS ⊢
      generalize nxtD e2 6 = e3 at a3 hVS ⊢
      conv => whnf
      refine ⟨_, fun _ => call_next 1 e3 8 (by omega) (by omega), ?_⟩
      have r4 := nxt_lt e3 (n := 8) (by omega)
      have a4 := nxtD_at e3 8
      generalize nxt e3 8 = b at r4 hVS ⊢
      generalize nxtD e3 8 = e4 at a4 hVS ⊢
      rw [Int.toNat_natCast] at hVS
      conv => whnf
      refine ⟨_, fun _ => call_next 1 e4 4 (by omega) (by omega), ?_⟩
      have hj : ((s : Int)).toNat = s := by omega
      rw [hj]
      by_cases h1 : (s : Int) < C.length
      · by_cases h2 : (0 : Int) < (C.getD s default).length
        · rw [if_pos ⟨h1, h2⟩] at hVS
          have hCn := hC s (by omega)
          rw [decide_eq_true h1, decide_eq_true h2]
          have a5 := nxtD_at e4 4
          have r5 := nxt_lt e4 (n := 4) (by omega)
          generalize nxt e4 4 = p at r5 hVS ⊢
          generalize nxtD e4 4 = e5 at a5 hVS ⊢
          conv => whnf
          refine ⟨?_, fun hp => ?_, fun hp => ?_⟩
          · (try conv => whnf)
            (repeat' (first | exact True.intro | exact fun _ h => h | refine inR64_of ?_ ?_ | apply And.intro | refine maxLen_ge ?_)) <;> (first | omega | decide | (dsimp only; omega) | (dsimp only [List.length_cons, List.length_nil]; omega) | (intro hg; rw [hg]; rfl) | (intro hg hh; rw [hg, hh]; rfl) | (intro hg; simp [-List.getD_eq_getElem?_getD, -Int.default_eq_zero] at hg; first | omega | (refine inR64_of ?_ ?_ <;> omega) | (constructor <;> omega)) | (simp [-List.getD_eq_getElem?_getD, -Int.default_eq_zero]; done))
          · have hp : 0 < p := of_decide_eq_true hp
            rw [if_pos hp] at hVS
            conv => whnf
            rw [hj]
            have r6 := nxt_lt e5 h2
            refine ⟨_, fun _ => call_next 1 e5 ((C.getD s default).length) (by omega) (by omega), ?_⟩
            subst hVS
            dsimp only at hvs hst q hxl
            conv => whnf
            refine ⟨?_, (m, l ++ [_], _), ⟨?_, hst, ?_⟩, ?_, rfl, rfl, ?_, ?_⟩
            · (try conv => whnf)
              (repeat' (first | exact True.intro | exact fun _ h => h | refine inR64_of ?_ ?_ | apply And.intro | refine maxLen_ge ?_)) <;> (first | omega | decide | (dsimp only; omega) | (dsimp only [List.length_cons, List.length_nil]; omega) | (intro hg; rw [hg]; rfl) | (intro hg hh; rw [hg, hh]; rfl) | (intro hg; simp [-List.getD_eq_getElem?_getD, -Int.default_eq_zero] at hg; first | omega | (refine inR64_of ?_ ?_ <;> omega) | (constructor <;> omega)) | (simp [-List.getD_eq_getElem?_getD, -Int.default_eq_zero]; done))
            · dsimp only; (try rw [hxl]); omega
            · dsimp only; rw [hxl]; omega
            · dsimp only; (try rw [hxl]); omega
            all_goals repeat' (first | exact True.intro | refine leF_cons rfl ?_ ?_ | refine leS_cons rfl ?_ ?_ | (show PLe _ _ _ _; conv => whnf) | (show SLe _ _ _ _; conv => whnf) | (show PLeL _ _ _ _; conv => whnf) | apply And.intro | rfl | exact Nat.le_refl _ | exact fun _ _ => rfl | exact rowEq0 _ _)
            all_goals first | exact q | (dsimp only; rw [hxl]; rfl) | (dsimp only; rw [hxl]; done) | (dsimp only; omega) | omega | skip
          · have hp : ¬ 0 < p := of_decide_eq_false hp
            rw [if_neg hp] at hVS
            subst hVS
            dsimp only at hvs hst q hxl
            conv => whnf
            refine ⟨?_, (m, l ++ [_], _), ⟨?_, hst, ?_⟩, ?_, rfl, rfl, ?_, ?_⟩
            · (try conv => whnf)
              (repeat' (first | exact True.intro | exact fun _ h => h | refine inR64_of ?_ ?_ | apply And.intro | refine maxLen_ge ?_)) <;> (first | omega | decide | (dsimp only; omega) | (dsimp only [List.length_cons, List.length_nil]; omega) | (intro hg; rw [hg]; rfl) | (intro hg hh; rw [hg, hh]; rfl) | (intro hg; simp [-List.getD_eq_getElem?_getD, -Int.default_eq_zero] at hg; first | omega | (refine inR64_of ?_ ?_ <;> omega) | (constructor <;> omega)) | (simp [-List.getD_eq_getElem?_getD, -Int.default_eq_zero]; done))
            · dsimp only; (try rw [hxl]); omega
            · dsimp only; rw [hxl]; omega
            · dsimp only; (try rw [hxl]); omega
            all_goals repeat' (first | exact True.intro | refine leF_cons rfl ?_ ?_ | refine leS_cons rfl ?_ ?_ | (show PLe _ _ _ _; conv => whnf) | (show SLe _ _ _ _; conv => whnf) | (show PLeL _ _ _ _; conv => whnf) | apply And.intro | rfl | exact Nat.le_refl _ | exact fun _ _ => rfl | exact rowEq0 _ _)
            all_goals first | exact q | (dsimp only; rw [hxl]; rfl) | (dsimp only; rw [hxl]; done) | (dsimp only; omega) | omega | skip
        · rw [if_neg (fun h => h2 h.2)] at hVS
          rw [decide_eq_true h1, decide_eq_false h2]
          conv => whnf
          refine ⟨?_, fun hp => (by cases hp), fun _ => ?_⟩
          · (try conv => whnf)
            (repeat' (first | exact True.intro | exact fun _ h => h | refine inR64_of ?_ ?_ | apply And.intro | refine maxLen_ge ?_)) <;> (first | omega | decide | (dsimp only; omega) | (dsimp only [List.length_cons, List.length_nil]; omega) | (intro hg; rw [hg]; rfl) | (intro hg hh; rw [hg, hh]; rfl) | (intro hg; simp [-List.getD_eq_getElem?_getD, -Int.default_eq_zero] at hg; first | omega | (refine inR64_of ?_ ?_ <;> omega) | (constructor <;> omega)) | (simp [-List.getD_eq_getElem?_getD, -Int.default_eq_zero]; done))
          subst hVS
          dsimp only at hvs hst q hxl
          conv => whnf
          refine ⟨?_, (m, l ++ [_], _), ⟨?_, hst, ?_⟩, ?_, rfl, rfl, ?_, ?_⟩
          · (try conv => whnf)
            (repeat' (first | exact True.intro | exact fun _ h => h | refine inR64_of ?_ ?_ | apply And.intro | refine maxLen_ge ?_)) <;> (first | omega | decide | (dsimp only; omega) | (dsimp only [List.length_cons, List.length_nil]; omega) | (intro hg; rw [hg]; rfl) | (intro hg hh; rw [hg, hh]; rfl) | (intro hg; simp [-List.getD_eq_getElem?_getD, -Int.default_eq_zero] at hg; first | omega | (refine inR64_of ?_ ?_ <;> omega) | (constructor <;> omega)) | (simp [-List.getD_eq_getElem?_getD, -Int.default_eq_zero]; done))
          · dsimp only; (try rw [hxl]); omega
          · dsimp only; rw [hxl]; omega
          · dsimp only; (try rw [hxl]); omega
          all_goals repeat' (first | exact True.intro | refine leF_cons rfl ?_ ?_ | refine leS_cons rfl ?_ ?_ | (show PLe _ _ _ _; conv => whnf) | (show SLe _ _ _ _; conv => whnf) | (show PLeL _ _ _ _; conv => whnf) | apply And.intro | rfl | exact Nat.le_refl _ | exact fun _ _ => rfl | exact rowEq0 _ _)
          all_goals first | exact q | (dsimp only; rw [hxl]; rfl) | (dsimp only; rw [hxl]; done) | (dsimp only; omega) | omega | skip
      · rw [if_neg (fun h => h1 h.1)] at hVS
        rw [decide_eq_false h1]
        conv => whnf
        refine ⟨?_, fun hp => (by cases hp), fun _ => ?_⟩
        · (try conv => whnf)
          (repeat' (first | exact True.intro | exact fun _ h => h | refine inR64_of ?_ ?_ | apply And.intro | refine maxLen_ge ?_)) <;> (first | omega | decide | (dsimp only; omega) | (dsimp only [List.length_cons, List.length_nil]; omega) | (intro hg; rw [hg]; rfl) | (intro hg hh; rw [hg, hh]; rfl) | (intro hg; simp [-List.getD_eq_getElem?_getD, -Int.default_eq_zero] at hg; first | omega | (refine inR64_of ?_ ?_ <;> omega) | (constructor <;> omega)) | (simp [-List.getD_eq_getElem?_getD, -Int.default_eq_zero]; done))
        subst hVS
        dsimp only at hvs hst q hxl
        conv => whnf
        refine ⟨?_, (m, l ++ [_], _), ⟨?_, hst, ?_⟩, ?_, rfl, rfl, ?_, ?_⟩
        · (try conv => whnf)
          (repeat' (first | exact True.intro | exact fun _ h => h | refine inR64_of ?_ ?_ | apply And.intro | refine maxLen_ge ?_)) <;> (first | omega | decide | (dsimp only; omega) | (dsimp only [List.length_cons, List.length_nil]; omega) | (intro hg; rw [hg]; rfl) | (intro hg hh; rw [hg, hh]; rfl) | (intro hg; simp [-List.getD_eq_getElem?_getD, -Int.default_eq_zero] at hg; first | omega | (refine inR64_of ?_ ?_ <;> omega) | (constructor <;> omega)) | (simp [-List.getD_eq_getElem?_getD, -Int.default_eq_zero]; done))
        · dsimp only; (try rw [hxl]); omega
        · dsimp only; rw [hxl]; omega
        · dsimp only; (try rw [hxl]); omega
        all_goals repeat' (first | exact True.intro | refine leF_cons rfl ?_ ?_ | refine leS_cons rfl ?_ ?_ | (show PLe _ _ _ _; conv => whnf) | (show SLe _ _ _ _; conv => whnf) | (show PLeL _ _ _ _; conv => whnf) | apply And.intro | rfl | exact Nat.le_refl _ | exact fun _ _ => rfl | exact rowEq0 _ _)
        all_goals first | exact q | (dsimp only; rw [hxl]; rfl) | (dsimp only; rw [hxl]; done) | (dsimp only; omega) | omega | skip
    · replace hc := of_decide_eq_false hc
      have h0 : m = 0 := by
        have h : ¬ (0 : Int) < m := hc
        omega
      subst h0
      have hp : (l, e) = it (vioN C) m0 ([], d0) := k2
      rw [← hp]
      conv => whnf
      refine ⟨?_, [], ?_⟩
      · (try conv => whnf)
        (repeat' (first | exact True.intro | exact fun _ h => h | refine inR64_of ?_ ?_ | apply And.intro | refine maxLen_ge ?_)) <;> (first | omega | (dsimp only; omega))
      conv => whnf
      refine ⟨rfl, ?_, ?_, trivial⟩
      all_goals repeat' (first | exact True.intro | refine leF_cons rfl ?_ ?_ | refine leS_cons rfl ?_ ?_ | (show PLe _ _ _ _; conv => whnf) | (show SLe _ _ _ _; conv => whnf) | (show PLeL _ _ _ _; conv => whnf) | apply And.intro | rfl | exact Nat.le_refl _ | exact fun _ _ => rfl | exact rowEq0 _ _)
end Pv
end Go.Proofs.YtafnkpmoolbjjaaDoor
/- LAW 42, THE WALKS: which condition a violation belongs to. -/
set_option linter.unusedSimpArgs false
set_option linter.unusedVariables false
namespace Go.Proofs.YtafnkpmoolbjjaaDoor
namespace Pv
def c38 : C := (.seq (.reg [⟨(some 3), 48, none, .bx 4 (.t 1)⟩,
    ⟨(some 4), 64, none, .al [(.int .i64 0), (.int .i64 0), (.int .i64 0), (.int .i64 0), (.int .i64 0), (.int .i64 0), (.int .i64 0)]⟩,
    ⟨(some 5), 80, none, .mv (.c (.bool false))⟩])
  (.seq (.seq (.drw [⟨(some 6), 96, none, .fa 1 (.t 3)⟩,
    ⟨(some 7), 112, none, .ld 1 false (.t 6)⟩,
    ⟨(some 8), 128, none, .bi false .lss (.t 7) (.c (.int .i64 0))⟩,
    ⟨(some 9), 144, none, .mv (.t 8)⟩,
    ⟨(some 10), 160, (some (9, false)), .fa 1 (.t 3)⟩,
    ⟨(some 11), 176, (some (9, false)), .ld 1 false (.t 10)⟩,
    ⟨(some 12), 192, (some (9, false)), .mv (.t 0)⟩,
    ⟨(some 13), 208, (some (9, false)), .len (.t 12)⟩,
    ⟨(some 14), 224, (some (9, false)), .bi false .geq (.t 11) (.t 13)⟩,
    ⟨(some 15), 240, none, .pick (.t 9) (.c (.bool true)) (.t 14)⟩,
    ⟨(some 16), 256, none, .mv (.t 15)⟩,
    ⟨(some 17), 272, (some (16, false)), .fa 2 (.t 3)⟩,
    ⟨(some 18), 288, (some (16, false)), .ld 1 false (.t 17)⟩,
    ⟨(some 19), 304, (some (16, false)), .bi false .lss (.t 18) (.c (.int .i64 0))⟩,
    ⟨(some 20), 320, none, .pick (.t 16) (.c (.bool true)) (.t 19)⟩,
    ⟨(some 21), 336, none, .mv (.t 20)⟩,
    ⟨(some 22), 352, (some (21, false)), .fa 2 (.t 3)⟩,
    ⟨(some 23), 368, (some (21, false)), .ld 1 false (.t 22)⟩,
    ⟨(some 24), 384, (some (21, false)), .mv (.t 0)⟩,
    ⟨(some 25), 400, (some (21, false)), .fa 1 (.t 3)⟩,
    ⟨(some 26), 416, (some (21, false)), .ld 1 false (.t 25)⟩,
    ⟨(some 27), 432, (some (21, false)), .ia 1 (.t 24) (.t 26)⟩,
    ⟨(some 28), 448, (some (21, false)), .ld 1 false (.t 27)⟩,
    ⟨(some 29), 464, (some (21, false)), .len (.t 28)⟩,
    ⟨(some 30), 480, (some (21, false)), .bi false .geq (.t 23) (.t 29)⟩,
    ⟨(some 31), 496, none, .pick (.t 21) (.c (.bool true)) (.t 30)⟩]
    [(4, 6, 10), (4, 7, 10), (5, 6, 11), (5, 7, 11), (16, 18, 22), (16, 19, 22), (16, 20, 22), (16, 21, 22), (16, 22, 22), (16, 23, 22), (17, 18, 23), (17, 19, 23), (17, 20, 23), (17, 21, 23), (17, 22, 23), (17, 23, 23), (18, 19, 24), (18, 20, 24)])
  (.cond (.t 31) (.seq (.reg [⟨(some 32), 512, none, .bd [(.int .i64 0), (.int .i64 0), (.int .i64 0), (.int .i64 0), (.int .i64 0), (.int .i64 0), (.int .i64 0)] []⟩,
    ⟨none, 0, none, .st 7 (.t 4) (.t 32)⟩,
    ⟨(some 5), 80, none, .mv (.c (.bool false))⟩])
  .ret) .skip))
  (.seq (.drw [⟨(some 33), 528, none, .mv (.t 0)⟩,
    ⟨(some 34), 544, none, .fa 1 (.t 3)⟩,
    ⟨(some 35), 560, none, .ld 1 false (.t 34)⟩,
    ⟨(some 36), 576, none, .ia 1 (.t 33) (.t 35)⟩,
    ⟨(some 37), 592, none, .ld 1 false (.t 36)⟩,
    ⟨(some 38), 608, none, .fa 2 (.t 3)⟩,
    ⟨(some 39), 624, none, .ld 1 false (.t 38)⟩,
    ⟨(some 40), 640, none, .ia 7 (.t 37) (.t 39)⟩,
    ⟨(some 41), 656, none, .ld 7 true (.t 40)⟩,
    ⟨none, 0, none, .st 7 (.t 4) (.t 41)⟩,
    ⟨(some 5), 80, none, .mv (.c (.bool true))⟩]
    [(0, 1, 33), (0, 2, 33), (0, 5, 33), (0, 6, 33), (1, 5, 34), (1, 6, 34), (2, 5, 35), (2, 6, 35), (3, 5, 36), (3, 6, 36), (4, 5, 37), (4, 6, 37)])
  .ret)))
theorem fits38 : fits Tryd.prog false Tryd.f38 2 42 [(4, some (7, true)), (5, none)] = some c38.er := by kernel_rfl
def c39 : C := (.seq (.reg [⟨(some 3), 48, none, .bx 4 (.t 1)⟩,
    ⟨(some 4), 64, none, .mv (.c (.bool false))⟩])
  (.seq (.drw [⟨(some 5), 80, none, .fa 1 (.t 3)⟩,
    ⟨(some 6), 96, none, .ld 1 false (.t 5)⟩,
    ⟨(some 7), 112, none, .bi false .geq (.t 6) (.c (.int .i64 0))⟩,
    ⟨(some 8), 128, none, .mv (.t 7)⟩,
    ⟨(some 9), 144, (some (8, true)), .fa 1 (.t 3)⟩,
    ⟨(some 10), 160, (some (8, true)), .ld 1 false (.t 9)⟩,
    ⟨(some 11), 176, (some (8, true)), .mv (.t 0)⟩,
    ⟨(some 12), 192, (some (8, true)), .len (.t 11)⟩,
    ⟨(some 13), 208, (some (8, true)), .bi false .lss (.t 10) (.t 12)⟩,
    ⟨(some 14), 224, none, .pick (.t 8) (.t 13) (.c (.bool false))⟩,
    ⟨(some 15), 240, none, .mv (.t 14)⟩,
    ⟨(some 16), 256, (some (15, true)), .fa 2 (.t 3)⟩,
    ⟨(some 17), 272, (some (15, true)), .ld 1 false (.t 16)⟩,
    ⟨(some 18), 288, (some (15, true)), .bi false .geq (.t 17) (.c (.int .i64 0))⟩,
    ⟨(some 19), 304, none, .pick (.t 15) (.t 18) (.c (.bool false))⟩,
    ⟨(some 20), 320, none, .mv (.t 19)⟩,
    ⟨(some 21), 336, (some (20, true)), .fa 2 (.t 3)⟩,
    ⟨(some 22), 352, (some (20, true)), .ld 1 false (.t 21)⟩,
    ⟨(some 23), 368, (some (20, true)), .mv (.t 0)⟩,
    ⟨(some 24), 384, (some (20, true)), .fa 1 (.t 3)⟩,
    ⟨(some 25), 400, (some (20, true)), .ld 1 false (.t 24)⟩,
    ⟨(some 26), 416, (some (20, true)), .ia 1 (.t 23) (.t 25)⟩,
    ⟨(some 27), 432, (some (20, true)), .ld 1 false (.t 26)⟩,
    ⟨(some 28), 448, (some (20, true)), .len (.t 27)⟩,
    ⟨(some 29), 464, (some (20, true)), .bi false .lss (.t 22) (.t 28)⟩,
    ⟨(some 30), 480, none, .pick (.t 20) (.t 29) (.c (.bool false))⟩,
    ⟨(some 4), 64, none, .mv (.t 30)⟩]
    [(4, 6, 9), (4, 7, 9), (5, 6, 10), (5, 7, 10), (16, 18, 21), (16, 19, 21), (16, 20, 21), (16, 21, 21), (16, 22, 21), (16, 23, 21), (17, 18, 22), (17, 19, 22), (17, 20, 22), (17, 21, 22), (17, 22, 22), (17, 23, 22), (18, 19, 23), (18, 20, 23)])
  .ret))
theorem fits39 : fits Tryd.prog false Tryd.f39 2 31 [(4, none)] = some c39.er := by kernel_rfl
def belV (C : List (List Cd)) (v : Vi) : Prop := (0 ≤ v.s ∧ v.s < C.length) ∧ 0 ≤ v.c ∧ v.c < (C.getD v.s.toNat default).length
instance (C : List (List Cd)) (v : Vi) : Decidable (belV C v) := by unfold belV; infer_instance
def cdV (C : List (List Cd)) (v : Vi) : Cd := (C.getD v.s.toNat default).getD v.c.toNat default
def cd0 : Cd := ⟨0, 0, 0, 0, 0, 0, 0⟩
set_option maxRecDepth 100000 in
set_option maxHeartbeats 8000000 in
theorem call39 (τ σ : Nat) (C : List (List Cd)) (v : Vi) (hl : C.length ≤ 4611686018427387904) (hC : ∀ i, i < C.length → (C.getD i default).length ≤ 4611686018427387904) :
    PureCall Tryd.prog 39 [.sl τ 1 C.length (fl (eCs σ) C), .agg (eVi v)] [] ⟨.bool (decide (belV C v)), [], []⟩ := by
  refine pure_call mix Tryd.func39 fits39 rfl ?_
  conv => whnf
  refine ⟨rfl, ?_⟩
  conv => whnf
  refine ⟨?_, [], ?_⟩
  · (try conv => whnf)
    (repeat' (first | exact True.intro | exact fun _ h => h | refine inR64_of ?_ ?_ | apply And.intro | refine maxLen_ge ?_)) <;> (first | omega | decide | (dsimp only; omega) | (dsimp only [List.length_cons, List.length_nil]; omega) | (intro hg; rw [hg]; rfl) | (intro hg hh; rw [hg, hh]; rfl) | (intro hg; simp [-List.getD_eq_getElem?_getD, -Int.default_eq_zero] at hg; first | omega | (refine inR64_of ?_ ?_ <;> omega) | (constructor <;> omega)) | (simp [-List.getD_eq_getElem?_getD, -Int.default_eq_zero]; done))
  conv => whnf
  refine ⟨rfl, ?_, trivial, trivial⟩
  all_goals repeat' (first | exact True.intro | refine leF_cons rfl ?_ ?_ | refine leS_cons rfl ?_ ?_ | (show PLe _ _ _ _; conv => whnf) | (show SLe _ _ _ _; conv => whnf) | (show PLeL _ _ _ _; conv => whnf) | apply And.intro | rfl | exact Nat.le_refl _ | exact fun _ _ => rfl | exact rowEq0 _ _)
  unfold belV
  by_cases h1 : 0 ≤ v.s <;> by_cases h2 : v.s < C.length <;> by_cases h3 : 0 ≤ v.c <;> by_cases h4 : v.c < (C.getD v.s.toNat default).length <;> simp [h1, h2, h3, h4, -List.getD_eq_getElem?_getD]
theorem bel_b {C : List (List Cd)} {v : Vi} {b : Bool} (h : (bif bif bif decide (v.s < 0) then true else decide ((C.length : Int) ≤ v.s) then true else decide (v.c < 0) then true else decide (((C.getD v.s.toNat default).length : Int) ≤ v.c)) = b) : belV C v ↔ b = false := by
  subst h
  unfold belV
  by_cases h1 : v.s < 0 <;> by_cases h2 : (C.length : Int) ≤ v.s <;> by_cases h3 : v.c < 0 <;> by_cases h4 : ((C.getD v.s.toNat default).length : Int) ≤ v.c <;> simp [h1, h2, h3, h4, -List.getD_eq_getElem?_getD] <;> omega
set_option maxRecDepth 100000 in
set_option maxHeartbeats 8000000 in
theorem call38 (τ σ : Nat) (C : List (List Cd)) (v : Vi) (hl : C.length ≤ 4611686018427387904) (hC : ∀ i, i < C.length → (C.getD i default).length ≤ 4611686018427387904) :
    PureCall Tryd.prog 38 [.sl τ 1 C.length (fl (eCs σ) C), .agg (eVi v)] [] ⟨.tup [.agg (eCd (if belV C v then cdV C v else cd0)), .bool (decide (belV C v))], [], []⟩ := by
  refine pure_call mix Tryd.func38 fits38 rfl ?_
  conv => whnf
  refine ⟨rfl, ?_⟩
  conv => whnf
  refine ⟨?_, fun hc => ?_, fun hc => ?_⟩
  · (try conv => whnf)
    (repeat' (first | exact True.intro | exact fun _ h => h | refine inR64_of ?_ ?_ | apply And.intro | refine maxLen_ge ?_)) <;> (first | omega | decide | (dsimp only; omega) | (dsimp only [List.length_cons, List.length_nil]; omega) | (intro hg; rw [hg]; rfl) | (intro hg hh; rw [hg, hh]; rfl) | (intro hg; simp [-List.getD_eq_getElem?_getD, -Int.default_eq_zero] at hg; first | omega | (refine inR64_of ?_ ?_ <;> omega) | (constructor <;> omega)) | (simp [-List.getD_eq_getElem?_getD, -Int.default_eq_zero]; done))
  · have hb : ¬ belV C v := fun h => absurd ((bel_b hc).1 h) (by decide)
    rw [if_neg hb, decide_eq_false hb]
    conv => whnf
    refine ⟨?_, [], ?_⟩
    · (try conv => whnf)
      (repeat' (first | exact True.intro | exact fun _ h => h | refine inR64_of ?_ ?_ | apply And.intro | refine maxLen_ge ?_)) <;> (first | omega | (dsimp only; omega))
    conv => whnf
    refine ⟨rfl, ?_, trivial, trivial⟩
    all_goals repeat' (first | exact True.intro | refine leF_cons rfl ?_ ?_ | refine leS_cons rfl ?_ ?_ | (show PLe _ _ _ _; conv => whnf) | (show SLe _ _ _ _; conv => whnf) | (show PLeL _ _ _ _; conv => whnf) | apply And.intro | rfl | exact Nat.le_refl _ | exact fun _ _ => rfl | exact rowEq0 _ _)
  · have hb : belV C v := (bel_b hc).2 rfl
    rw [if_pos hb, decide_eq_true hb]
    obtain ⟨⟨b1, b2⟩, b3, b4⟩ := hb
    conv => whnf
    refine ⟨rfl, ?_⟩
    conv => whnf
    refine ⟨?_, [], ?_⟩
    · (try conv => whnf)
      (repeat' (first | exact True.intro | exact fun _ h => h | refine inR64_of ?_ ?_ | apply And.intro | refine maxLen_ge ?_)) <;> (first | omega | (dsimp only; omega))
    conv => whnf
    refine ⟨rfl, ?_, trivial, trivial⟩
    all_goals repeat' (first | exact True.intro | refine leF_cons rfl ?_ ?_ | refine leS_cons rfl ?_ ?_ | (show PLe _ _ _ _; conv => whnf) | (show SLe _ _ _ _; conv => whnf) | (show PLeL _ _ _ _; conv => whnf) | apply And.intro | rfl | exact Nat.le_refl _ | exact fun _ _ => rfl | exact rowEq0 _ _)
end Pv
end Go.Proofs.YtafnkpmoolbjjaaDoor
set_option linter.unusedSimpArgs false
set_option linter.unusedVariables false
namespace Go.Proofs.YtafnkpmoolbjjaaDoor
namespace Pv
def c20L1 : C := (.seq (.reg [⟨(some 18), 288, none, .bi false .lss (.t 17) (.t 16)⟩])
  (.seq (.cond (.t 18) .skip (.exit 0))
  (.seq (.block 1 (.seq (.reg [⟨(some 19), 304, none, .ia 4 (.t 15) (.t 17)⟩,
    ⟨(some 20), 320, none, .ld 4 true (.t 19)⟩,
    ⟨(some 8), 128, none, .al [(.int .i64 0), (.int .i64 0), (.int .i64 0), (.int .i64 0)]⟩,
    ⟨none, 0, none, .st 4 (.t 8) (.t 20)⟩])
  (.seq (.reg [⟨(some 22), 352, none, .mv (.t 0)⟩,
    ⟨(some 23), 368, none, .ld 4 true (.t 8)⟩,
    ⟨(some 24), 384, none, .call (.c (.fn (.func 38) [] [])) [(.t 22), (.t 23)]⟩,
    ⟨(some 21), 336, none, .mv (.t 24)⟩,
    ⟨(some 25), 400, none, .ex (.t 21) 0⟩,
    ⟨(some 26), 416, none, .ex (.t 21) 1⟩,
    ⟨(some 9), 144, none, .al [(.int .i64 0), (.int .i64 0), (.int .i64 0), (.int .i64 0), (.int .i64 0), (.int .i64 0), (.int .i64 0)]⟩,
    ⟨none, 0, none, .st 7 (.t 9) (.t 25)⟩,
    ⟨(some 10), 160, none, .mv (.t 26)⟩])
  (.seq (.seq (.reg [⟨(some 27), 432, none, .mv (.t 10)⟩,
    ⟨(some 28), 448, none, .un false .not (.t 27)⟩])
  (.cond (.t 28) (.seq (.reg [⟨(some 4), 64, none, .mv (.c (.nil 1))⟩,
    ⟨(some 5), 80, none, .mv (.c (.int .i64 40))⟩])
  .ret) .skip))
  (.seq (.seq (.reg [⟨(some 29), 464, none, .fa 0 (.t 9)⟩,
    ⟨(some 30), 480, none, .ld 1 false (.t 29)⟩,
    ⟨(some 31), 496, none, .bi false .lss (.t 30) (.c (.int .i64 1))⟩,
    ⟨(some 32), 512, none, .mv (.t 31)⟩,
    ⟨(some 33), 528, (some (32, false)), .fa 0 (.t 9)⟩,
    ⟨(some 34), 544, (some (32, false)), .ld 1 false (.t 33)⟩,
    ⟨(some 35), 560, (some (32, false)), .bi false .gtr (.t 34) (.c (.int .i64 9))⟩,
    ⟨(some 36), 576, none, .pick (.t 32) (.c (.bool true)) (.t 35)⟩])
  (.cond (.t 36) (.seq (.reg [⟨(some 4), 64, none, .mv (.c (.nil 1))⟩,
    ⟨(some 5), 80, none, .mv (.c (.int .i64 1))⟩])
  .ret) .skip))
  (.reg [⟨(some 37), 592, none, .mv (.t 6)⟩,
    ⟨(some 38), 608, none, .fa 0 (.t 9)⟩,
    ⟨(some 39), 624, none, .ld 1 false (.t 38)⟩,
    ⟨(some 40), 640, none, .bi false .sub (.t 39) (.c (.int .i64 1))⟩,
    ⟨(some 41), 656, none, .ia 1 (.t 37) (.t 40)⟩,
    ⟨(some 42), 672, none, .ld 1 false (.t 41)⟩,
    ⟨(some 43), 688, none, .bi false .add (.t 42) (.c (.int .i64 1))⟩,
    ⟨(some 44), 704, none, .ia 1 (.t 37) (.t 40)⟩,
    ⟨none, 0, none, .st 1 (.t 44) (.t 43)⟩]))))))
  (.reg [⟨(some 45), 720, none, .bi false .add (.t 17) (.c (.int .i64 1))⟩,
    ⟨(some 17), 272, none, .mv (.t 45)⟩]))))
def c20 : C := (.seq (.reg [⟨(some 4), 64, none, .mv (.c (.nil 1))⟩,
    ⟨(some 5), 80, none, .mv (.c (.int .i64 0))⟩])
  (.seq (.seq (.reg [⟨(some 11), 176, none, .mv (.t 0)⟩,
    ⟨(some 12), 192, none, .len (.t 11)⟩,
    ⟨(some 13), 208, none, .bi false .gtr (.t 12) (.c (.int .i64 6))⟩])
  (.cond (.t 13) (.seq (.reg [⟨(some 4), 64, none, .mv (.c (.nil 1))⟩,
    ⟨(some 5), 80, none, .mv (.c (.int .i64 10))⟩])
  .ret) .skip))
  (.seq (.reg [⟨(some 14), 224, none, .mks 3 1 8 [(.int .i64 0)] (.c (.int .i64 9)) (.c (.int .i64 9))⟩,
    ⟨(some 6), 96, none, .mv (.t 14)⟩])
  (.seq (.seq (.reg [⟨(some 15), 240, none, .mv (.t 1)⟩,
    ⟨(some 16), 256, none, .len (.t 15)⟩,
    ⟨(some 17), 272, none, .mv (.c (.int .i64 0))⟩])
  (.block 0 (.loop c20L1)))
  (.seq (.reg [⟨(some 46), 736, none, .mv (.t 6)⟩,
    ⟨(some 4), 64, none, .mv (.t 46)⟩,
    ⟨(some 5), 80, none, .mv (.c (.int .i64 0))⟩])
  .ret)))))
theorem fits20 : fits Tryd.prog false Tryd.f20 2 47 [(4, none), (5, none)] = some c20.er := by kernel_rfl
def c21L1 : C := (.seq (.reg [⟨(some 17), 272, none, .bi false .lss (.t 16) (.t 15)⟩])
  (.seq (.cond (.t 17) .skip (.exit 0))
  (.seq (.block 1 (.seq (.reg [⟨(some 18), 288, none, .ia 4 (.t 14) (.t 16)⟩,
    ⟨(some 19), 304, none, .ld 4 true (.t 18)⟩,
    ⟨(some 8), 128, none, .al [(.int .i64 0), (.int .i64 0), (.int .i64 0), (.int .i64 0)]⟩,
    ⟨none, 0, none, .st 4 (.t 8) (.t 19)⟩])
  (.seq (.seq (.reg [⟨(some 20), 320, none, .mv (.t 0)⟩,
    ⟨(some 21), 336, none, .ld 4 true (.t 8)⟩,
    ⟨(some 22), 352, none, .call (.c (.fn (.func 39) [] [])) [(.t 20), (.t 21)]⟩,
    ⟨(some 23), 368, none, .un false .not (.t 22)⟩])
  (.cond (.t 23) (.seq (.reg [⟨(some 4), 64, none, .mv (.c (.nil 1))⟩,
    ⟨(some 5), 80, none, .mv (.c (.int .i64 40))⟩])
  .ret) .skip))
  (.seq (.drw [⟨(some 24), 384, none, .mv (.t 0)⟩,
    ⟨(some 25), 400, none, .fa 1 (.t 8)⟩,
    ⟨(some 26), 416, none, .ld 1 false (.t 25)⟩,
    ⟨(some 27), 432, none, .ia 1 (.t 24) (.t 26)⟩,
    ⟨(some 28), 448, none, .ld 1 false (.t 27)⟩,
    ⟨(some 29), 464, none, .fa 2 (.t 8)⟩,
    ⟨(some 30), 480, none, .ld 1 false (.t 29)⟩,
    ⟨(some 31), 496, none, .ia 7 (.t 28) (.t 30)⟩,
    ⟨(some 32), 512, none, .fa 0 (.t 31)⟩,
    ⟨(some 33), 528, none, .ld 1 false (.t 32)⟩,
    ⟨(some 9), 144, none, .mv (.t 33)⟩]
    [(0, 1, 24), (0, 2, 24), (0, 5, 24), (0, 6, 24), (1, 5, 25), (1, 6, 25), (2, 5, 26), (2, 6, 26), (3, 5, 27), (3, 6, 27), (4, 5, 28), (4, 6, 28)])
  (.seq (.seq (.reg [⟨(some 34), 544, none, .mv (.t 9)⟩,
    ⟨(some 35), 560, none, .bi false .lss (.t 34) (.c (.int .i64 1))⟩,
    ⟨(some 36), 576, none, .mv (.t 35)⟩,
    ⟨(some 37), 592, (some (36, false)), .mv (.t 9)⟩,
    ⟨(some 38), 608, (some (36, false)), .bi false .gtr (.t 37) (.c (.int .i64 9))⟩,
    ⟨(some 39), 624, none, .pick (.t 36) (.c (.bool true)) (.t 38)⟩])
  (.cond (.t 39) (.seq (.reg [⟨(some 4), 64, none, .mv (.c (.nil 1))⟩,
    ⟨(some 5), 80, none, .mv (.c (.int .i64 1))⟩])
  .ret) .skip))
  (.reg [⟨(some 40), 640, none, .mv (.t 6)⟩,
    ⟨(some 41), 656, none, .mv (.t 9)⟩,
    ⟨(some 42), 672, none, .bi false .sub (.t 41) (.c (.int .i64 1))⟩,
    ⟨(some 43), 688, none, .ia 1 (.t 40) (.t 42)⟩,
    ⟨(some 44), 704, none, .ld 1 false (.t 43)⟩,
    ⟨(some 45), 720, none, .bi false .add (.t 44) (.c (.int .i64 1))⟩,
    ⟨(some 46), 736, none, .ia 1 (.t 40) (.t 42)⟩,
    ⟨none, 0, none, .st 1 (.t 46) (.t 45)⟩]))))))
  (.reg [⟨(some 47), 752, none, .bi false .add (.t 16) (.c (.int .i64 1))⟩,
    ⟨(some 16), 256, none, .mv (.t 47)⟩]))))
def c21 : C := (.seq (.reg [⟨(some 4), 64, none, .mv (.c (.nil 1))⟩,
    ⟨(some 5), 80, none, .mv (.c (.int .i64 0))⟩])
  (.seq (.seq (.reg [⟨(some 10), 160, none, .mv (.t 0)⟩,
    ⟨(some 11), 176, none, .len (.t 10)⟩,
    ⟨(some 12), 192, none, .bi false .gtr (.t 11) (.c (.int .i64 6))⟩])
  (.cond (.t 12) (.seq (.reg [⟨(some 4), 64, none, .mv (.c (.nil 1))⟩,
    ⟨(some 5), 80, none, .mv (.c (.int .i64 10))⟩])
  .ret) .skip))
  (.seq (.reg [⟨(some 13), 208, none, .mks 3 1 8 [(.int .i64 0)] (.c (.int .i64 9)) (.c (.int .i64 9))⟩,
    ⟨(some 6), 96, none, .mv (.t 13)⟩])
  (.seq (.seq (.reg [⟨(some 14), 224, none, .mv (.t 1)⟩,
    ⟨(some 15), 240, none, .len (.t 14)⟩,
    ⟨(some 16), 256, none, .mv (.c (.int .i64 0))⟩])
  (.block 0 (.loop c21L1)))
  (.seq (.reg [⟨(some 48), 768, none, .mv (.t 6)⟩,
    ⟨(some 4), 64, none, .mv (.t 48)⟩,
    ⟨(some 5), 80, none, .mv (.c (.int .i64 0))⟩])
  .ret)))))
theorem fits21 : fits Tryd.prog false Tryd.f21 2 49 [(4, none), (5, none)] = some c21.er := by kernel_rfl
def cntL (C : List (List Cd)) : List Int → List Vi → List Int × Int
  | out, [] => (out, 0)
  | out, v :: r => if ¬ belV C v then ([], 40) else if (cdV C v).r < 1 ∨ 9 < (cdV C v).r then ([], 1) else cntL C (out.set ((cdV C v).r - 1).toNat (out.getD ((cdV C v).r - 1).toNat default + 1)) r
def countF (C : List (List Cd)) (l : List Vi) : List Int × Int := if 6 < C.length then ([], 10) else cntL C (List.replicate 9 0) l
theorem cntL_drop {C : List (List Cd)} {out : List Int} {l : List Vi} {i : Nat} (h : i < l.length) : cntL C out (l.drop i) = if ¬ belV C (l.getD i default) then ([], 40) else if (cdV C (l.getD i default)).r < 1 ∨ 9 < (cdV C (l.getD i default)).r then ([], 1) else
    cntL C (out.set ((cdV C (l.getD i default)).r - 1).toNat (out.getD ((cdV C (l.getD i default)).r - 1).toNat default + 1)) (l.drop (i + 1)) := by
  rw [List.drop_eq_getElem_cons h]
  have : l.getD i default = l[i] := by simp [List.getD, h]
  rw [this]; rfl
theorem rep9 {k : Nat} (h : k < 9) : (List.replicate 9 (0 : Int)).getD k default = 0 := by
  match k, h with
  | 0, _ => rfl
  | 1, _ => rfl
  | 2, _ => rfl
  | 3, _ => rfl
  | 4, _ => rfl
  | 5, _ => rfl
  | 6, _ => rfl
  | 7, _ => rfl
  | 8, _ => rfl
theorem set_eqI {X : List Int} {i : Nat} {y : Int} : RowEq X.length (fun k => if k = i then setAt (fl eInt X i) 0 (eInt y) else fl eInt X k) (fl eInt (X.set i y)) := fun k hk => by
  by_cases e : k = i
  · subst e
    simp only [if_pos rfl, fl]
    have : (X.set k y).getD k default = y := by simp [List.getD, List.getElem?_set, hk]
    rw [this]; rfl
  · simp only [if_neg e, fl]
    have : (X.set i y).getD k default = X.getD k default := by simp [List.getD, List.getElem?_set, Ne.symm e]
    rw [this]
set_option maxRecDepth 100000 in
set_option maxHeartbeats 8000000 in
theorem call20 (τ σ τ' : Nat) (C : List (List Cd)) (l : List Vi) (hl : C.length ≤ 4611686018427387904) (hC : ∀ i, i < C.length → (C.getD i default).length ≤ 4611686018427387904) (hll : l.length ≤ 4611686018427387904) :
    PureCall Tryd.prog 20 [.sl τ 1 C.length (fl (eCs σ) C), .sl τ' 4 l.length (fl eVi l)] [] ⟨.tup [.sl 0 1 (countF C l).1.length (fl eInt (countF C l).1), .int .i64 (countF C l).2], [], []⟩ := by
  refine pure_call mix Tryd.func20 fits20 rfl ?_
  conv => whnf
  refine ⟨trivial, fun hc => ?_, fun hc => ?_⟩
  · have h : (6 : Int) < C.length := of_decide_eq_true hc
    rw [show countF C l = ([], 10) by unfold countF; rw [if_pos (by omega)]]
    conv => whnf
    refine ⟨?_, [], ?_⟩
    · (try conv => whnf)
      (repeat' (first | exact True.intro | exact fun _ h => h | refine inR64_of ?_ ?_ | apply And.intro | refine maxLen_ge ?_)) <;> (first | omega | (dsimp only; omega))
    conv => whnf
    refine ⟨rfl, ?_, trivial, trivial⟩
    all_goals repeat' (first | exact True.intro | refine leF_cons rfl ?_ ?_ | refine leS_cons rfl ?_ ?_ | (show PLe _ _ _ _; conv => whnf) | (show SLe _ _ _ _; conv => whnf) | (show PLeL _ _ _ _; conv => whnf) | apply And.intro | rfl | exact Nat.le_refl _ | exact fun _ _ => rfl | exact rowEq0 _ _)
  have h6 : ¬ (6 : Int) < C.length := of_decide_eq_false hc
  rw [show countF C l = cntL C (List.replicate 9 0) l by unfold countF; rw [if_neg (by omega)]]
  clear hc
  conv => whnf
  refine ⟨?_, ?_⟩
  · (try conv => whnf)
    (repeat' (first | exact True.intro | exact fun _ h => h | refine inR64_of ?_ ?_ | apply And.intro | refine maxLen_ge ?_)) <;> (first | omega | decide | (dsimp only; omega) | (dsimp only [List.length_cons, List.length_nil]; omega) | (intro hg; rw [hg]; rfl) | (intro hg hh; rw [hg, hh]; rfl) | (intro hg; simp [-List.getD_eq_getElem?_getD, -Int.default_eq_zero] at hg; first | omega | (refine inR64_of ?_ ?_ <;> omega) | (constructor <;> omega)) | (simp [-List.getD_eq_getElem?_getD, -Int.default_eq_zero]; done))
  refine LSem.loop (n := 47) mix (α := Nat × List Int) (fun x => x.1 ≤ l.length ∧ x.2.length = 9 ∧ (∀ k, k < 9 → 0 ≤ x.2.getD k default ∧ x.2.getD k default ≤ x.1) ∧ cntL C x.2 (l.drop x.1) = cntL C (List.replicate 9 0) l)
    (fun x => [(0, .sl τ 1 C.length (fl (eCs σ) C)), (6, .os 224), (15, .sl τ' 4 l.length (fl eVi l)), (16, .int .i64 l.length), (17, .int .i64 x.1)])
    (fun x => [(224, .row 0 3 1 9 (fl eInt x.2))]) (fun x => l.length - x.1) (0, List.replicate 9 0) ?_ ?_ ?_
  · exact ⟨Nat.zero_le _, rfl, fun k hk => by rw [rep9 hk]; dsimp only; omega, rfl⟩
  · refine ⟨rfl, rfl, ?_, ?_⟩
    all_goals repeat' (first | exact True.intro | refine leF_cons rfl ?_ ?_ | refine leS_cons rfl ?_ ?_ | (show PLe _ _ _ _; conv => whnf) | (show SLe _ _ _ _; conv => whnf) | (show PLeL _ _ _ _; conv => whnf) | apply And.intro | rfl | exact Nat.le_refl _ | exact fun _ _ => rfl | exact rowEq0 _ _)
    all_goals first | (intro k hk; dsimp only; unfold fl; rw [rep9 hk]; rfl) | skip
  · intro x hx
    obtain ⟨i, out⟩ := x
    obtain ⟨hi, ho, hr, hp⟩ := hx
    dsimp only at hi ho hr hp
    have hj : ((i : Int)).toNat = i := by omega
    conv => whnf
    refine ⟨trivial, fun hc => ?_, fun hc => ?_⟩
    · replace hc := of_decide_eq_true hc
      have hlt : i < l.length := by
        have h : (i : Int) < l.length := hc
        omega
      rw [cntL_drop hlt] at hp
      conv => whnf
      rw [hj]
      generalize l.getD i default = v at hp ⊢
      refine ⟨_, fun _ => call38 _ σ C v hl hC, ?_⟩
      by_cases hb : belV C v
      · rw [decide_eq_true hb, if_pos hb]
        rw [if_neg (fun h => h hb)] at hp
        obtain ⟨⟨b1, b2⟩, b3, b4⟩ := hb
        conv => whnf
        refine ⟨?_, fun h => (by cases h), fun _ => ?_⟩
        · (try conv => whnf)
          (repeat' (first | exact True.intro | exact fun _ h => h | refine inR64_of ?_ ?_ | apply And.intro | refine maxLen_ge ?_)) <;> (first | omega | (dsimp only; omega))
        conv => whnf
        have hK : (cdV C v).r = (cdV C v).r := rfl
        generalize (cdV C v).r = K at hp hK ⊢
        refine ⟨?_, fun hc => ?_, fun hc => ?_⟩
        · (try conv => whnf)
          (repeat' (first | exact True.intro | exact fun _ h => h | refine inR64_of ?_ ?_ | apply And.intro | refine maxLen_ge ?_)) <;> (first | omega | decide | (dsimp only; omega) | (dsimp only [List.length_cons, List.length_nil]; omega) | (intro hg; rw [hg]; rfl) | (intro hg hh; rw [hg, hh]; rfl) | (intro hg; simp [-List.getD_eq_getElem?_getD, -Int.default_eq_zero] at hg; first | omega | (refine inR64_of ?_ ?_ <;> omega) | (constructor <;> omega)) | (simp [-List.getD_eq_getElem?_getD, -Int.default_eq_zero]; done))
        · have hc : (bif decide (K < 1) then true else decide (9 < K)) = true := hc
          simp only [bif_t, bif_f, decide_eq_true_eq, decide_eq_false_iff_not, Bool.not_eq_true', Bool.not_eq_false', Bool.and_eq_true, Bool.or_eq_true, Bool.and_eq_false_iff, Bool.or_eq_false_iff, beq_iff_eq, bne_iff_ne, beq_eq_false_iff_ne, bne_eq_false_iff_eq, reduceCtorEq, false_and, and_false, true_and, and_true, or_false, false_or, or_true, true_or, not_true_eq_false, not_false_eq_true, Int.toNat_zero] at hc
          rw [if_pos (by omega)] at hp
          rw [← hp]
          conv => whnf
          refine ⟨?_, [], ?_⟩
          · (try conv => whnf)
            (repeat' (first | exact True.intro | exact fun _ h => h | refine inR64_of ?_ ?_ | apply And.intro | refine maxLen_ge ?_)) <;> (first | omega | (dsimp only; omega))
          conv => whnf
          refine ⟨rfl, ?_, trivial, trivial⟩
          all_goals repeat' (first | exact True.intro | refine leF_cons rfl ?_ ?_ | refine leS_cons rfl ?_ ?_ | (show PLe _ _ _ _; conv => whnf) | (show SLe _ _ _ _; conv => whnf) | (show PLeL _ _ _ _; conv => whnf) | apply And.intro | rfl | exact Nat.le_refl _ | exact fun _ _ => rfl | exact rowEq0 _ _)
        · have hc : (bif decide (K < 1) then true else decide (9 < K)) = false := hc
          simp only [bif_t, bif_f, decide_eq_true_eq, decide_eq_false_iff_not, Bool.not_eq_true', Bool.not_eq_false', Bool.and_eq_true, Bool.or_eq_true, Bool.and_eq_false_iff, Bool.or_eq_false_iff, beq_iff_eq, bne_iff_ne, beq_eq_false_iff_ne, bne_eq_false_iff_eq, reduceCtorEq, false_and, and_false, true_and, and_true, or_false, false_or, or_true, true_or, not_true_eq_false, not_false_eq_true, Int.toNat_zero] at hc
          rw [if_neg (by omega)] at hp
          obtain ⟨q, hq⟩ : ∃ q : Nat, (q : Int) = K - 1 := ⟨(K - 1).toNat, by omega⟩
          have hq2 : (K - 1).toNat = q := by omega
          have hrq := hr q (by omega)
          have hse := set_eqI (X := out) (i := q) (y := out.getD q default + 1)
          rw [ho] at hse
          rw [hq2] at hp
          conv => whnf
          rw [← hq]
          refine ⟨?_, (i + 1, out.set q (out.getD q default + 1)), ⟨hlt, by rw [List.length_set]; exact ho, fun k hk => ?_, hp⟩, ?_, rfl, rfl, ?_, ?_⟩
          · (try conv => whnf)
            rw [Int.toNat_natCast]
            (repeat' (first | exact True.intro | exact fun _ h => h | refine inR64_of ?_ ?_ | apply And.intro)) <;> first | omega | (dsimp only; omega)
          · have hk9 := hr k hk
            by_cases e : k = q
            · subst e
              rw [show (out.set k (out.getD k default + 1)).getD k default = out.getD k default + 1 by simp [List.getD, List.getElem?_set, show k < out.length by omega]]
              dsimp only; omega
            · rw [show (out.set q (out.getD q default + 1)).getD k default = out.getD k default by simp [List.getD, List.getElem?_set, Ne.symm e]]
              dsimp only; omega
          · dsimp only; omega
          all_goals repeat' (first | exact True.intro | refine leF_cons rfl ?_ ?_ | refine leS_cons rfl ?_ ?_ | (show PLe _ _ _ _; conv => whnf) | (show SLe _ _ _ _; conv => whnf) | (show PLeL _ _ _ _; conv => whnf) | apply And.intro | rfl | exact Nat.le_refl _ | exact fun _ _ => rfl | exact rowEq0 _ _)
          all_goals first | (rw [Int.toNat_natCast]; exact hse) | exact hse | (dsimp only; omega) | skip
      · rw [decide_eq_false hb, if_neg hb]
        rw [if_pos hb] at hp
        rw [← hp]
        conv => whnf
        refine ⟨?_, fun _ => ?_, fun h => (by cases h)⟩
        · (try conv => whnf)
          (repeat' (first | exact True.intro | exact fun _ h => h | refine inR64_of ?_ ?_ | apply And.intro | refine maxLen_ge ?_)) <;> (first | omega | (dsimp only; omega))
        conv => whnf
        refine ⟨?_, [], ?_⟩
        · (try conv => whnf)
          (repeat' (first | exact True.intro | exact fun _ h => h | refine inR64_of ?_ ?_ | apply And.intro | refine maxLen_ge ?_)) <;> (first | omega | (dsimp only; omega))
        conv => whnf
        refine ⟨rfl, ?_, trivial, trivial⟩
        all_goals repeat' (first | exact True.intro | refine leF_cons rfl ?_ ?_ | refine leS_cons rfl ?_ ?_ | (show PLe _ _ _ _; conv => whnf) | (show SLe _ _ _ _; conv => whnf) | (show PLeL _ _ _ _; conv => whnf) | apply And.intro | rfl | exact Nat.le_refl _ | exact fun _ _ => rfl | exact rowEq0 _ _)
    · replace hc := of_decide_eq_false hc
      have hk : i = l.length := by
        have h : ¬ (i : Int) < l.length := hc
        omega
      subst hk
      rw [List.drop_length] at hp
      have hp2 : (out, (0 : Int)) = cntL C (List.replicate 9 0) l := hp
      rw [← hp2]
      conv => whnf
      refine ⟨?_, [], ?_⟩
      · (try conv => whnf)
        (repeat' (first | exact True.intro | exact fun _ h => h | refine inR64_of ?_ ?_ | apply And.intro | refine maxLen_ge ?_)) <;> (first | omega | (dsimp only; omega))
      conv => whnf
      refine ⟨rfl, ?_, trivial, trivial⟩
      all_goals repeat' (first | exact True.intro | refine leF_cons rfl ?_ ?_ | refine leS_cons rfl ?_ ?_ | (show PLe _ _ _ _; conv => whnf) | (show SLe _ _ _ _; conv => whnf) | (show PLeL _ _ _ _; conv => whnf) | apply And.intro | rfl | exact Nat.le_refl _ | exact fun _ _ => rfl | exact rowEq0 _ _)
      all_goals first | exact ho.symm | skip
set_option maxRecDepth 100000 in
set_option maxHeartbeats 8000000 in
theorem call21 (τ σ τ' : Nat) (C : List (List Cd)) (l : List Vi) (hl : C.length ≤ 4611686018427387904) (hC : ∀ i, i < C.length → (C.getD i default).length ≤ 4611686018427387904) (hll : l.length ≤ 4611686018427387904) :
    PureCall Tryd.prog 21 [.sl τ 1 C.length (fl (eCs σ) C), .sl τ' 4 l.length (fl eVi l)] [] ⟨.tup [.sl 0 1 (countF C l).1.length (fl eInt (countF C l).1), .int .i64 (countF C l).2], [], []⟩ := by
  refine pure_call mix Tryd.func21 fits21 rfl ?_
  conv => whnf
  refine ⟨trivial, fun hc => ?_, fun hc => ?_⟩
  · have h : (6 : Int) < C.length := of_decide_eq_true hc
    rw [show countF C l = ([], 10) by unfold countF; rw [if_pos (by omega)]]
    conv => whnf
    refine ⟨?_, [], ?_⟩
    · (try conv => whnf)
      (repeat' (first | exact True.intro | exact fun _ h => h | refine inR64_of ?_ ?_ | apply And.intro | refine maxLen_ge ?_)) <;> (first | omega | (dsimp only; omega))
    conv => whnf
    refine ⟨rfl, ?_, trivial, trivial⟩
    all_goals repeat' (first | exact True.intro | refine leF_cons rfl ?_ ?_ | refine leS_cons rfl ?_ ?_ | (show PLe _ _ _ _; conv => whnf) | (show SLe _ _ _ _; conv => whnf) | (show PLeL _ _ _ _; conv => whnf) | apply And.intro | rfl | exact Nat.le_refl _ | exact fun _ _ => rfl | exact rowEq0 _ _)
  have h6 : ¬ (6 : Int) < C.length := of_decide_eq_false hc
  rw [show countF C l = cntL C (List.replicate 9 0) l by unfold countF; rw [if_neg (by omega)]]
  clear hc
  conv => whnf
  refine ⟨?_, ?_⟩
  · (try conv => whnf)
    (repeat' (first | exact True.intro | exact fun _ h => h | refine inR64_of ?_ ?_ | apply And.intro | refine maxLen_ge ?_)) <;> (first | omega | decide | (dsimp only; omega) | (dsimp only [List.length_cons, List.length_nil]; omega) | (intro hg; rw [hg]; rfl) | (intro hg hh; rw [hg, hh]; rfl) | (intro hg; simp [-List.getD_eq_getElem?_getD, -Int.default_eq_zero] at hg; first | omega | (refine inR64_of ?_ ?_ <;> omega) | (constructor <;> omega)) | (simp [-List.getD_eq_getElem?_getD, -Int.default_eq_zero]; done))
  refine LSem.loop (n := 49) mix (α := Nat × List Int) (fun x => x.1 ≤ l.length ∧ x.2.length = 9 ∧ (∀ k, k < 9 → 0 ≤ x.2.getD k default ∧ x.2.getD k default ≤ x.1) ∧ cntL C x.2 (l.drop x.1) = cntL C (List.replicate 9 0) l)
    (fun x => [(0, .sl τ 1 C.length (fl (eCs σ) C)), (6, .os 208), (14, .sl τ' 4 l.length (fl eVi l)), (15, .int .i64 l.length), (16, .int .i64 x.1)])
    (fun x => [(208, .row 0 3 1 9 (fl eInt x.2))]) (fun x => l.length - x.1) (0, List.replicate 9 0) ?_ ?_ ?_
  · exact ⟨Nat.zero_le _, rfl, fun k hk => by rw [rep9 hk]; dsimp only; omega, rfl⟩
  · refine ⟨rfl, rfl, ?_, ?_⟩
    all_goals repeat' (first | exact True.intro | refine leF_cons rfl ?_ ?_ | refine leS_cons rfl ?_ ?_ | (show PLe _ _ _ _; conv => whnf) | (show SLe _ _ _ _; conv => whnf) | (show PLeL _ _ _ _; conv => whnf) | apply And.intro | rfl | exact Nat.le_refl _ | exact fun _ _ => rfl | exact rowEq0 _ _)
    all_goals first | (intro k hk; dsimp only; unfold fl; rw [rep9 hk]; rfl) | skip
  · intro x hx
    obtain ⟨i, out⟩ := x
    obtain ⟨hi, ho, hr, hp⟩ := hx
    dsimp only at hi ho hr hp
    have hj : ((i : Int)).toNat = i := by omega
    conv => whnf
    refine ⟨trivial, fun hc => ?_, fun hc => ?_⟩
    · replace hc := of_decide_eq_true hc
      have hlt : i < l.length := by
        have h : (i : Int) < l.length := hc
        omega
      rw [cntL_drop hlt] at hp
      conv => whnf
      rw [hj]
      generalize l.getD i default = v at hp ⊢
      refine ⟨_, fun _ => call39 _ σ C v hl hC, ?_⟩
      by_cases hb : belV C v
      · rw [decide_eq_true hb]
        rw [if_neg (fun h => h hb)] at hp
        obtain ⟨⟨b1, b2⟩, b3, b4⟩ := hb
        conv => whnf
        refine ⟨?_, fun h => (by cases h), fun _ => ?_⟩
        · (try conv => whnf)
          (repeat' (first | exact True.intro | exact fun _ h => h | refine inR64_of ?_ ?_ | apply And.intro | refine maxLen_ge ?_)) <;> (first | omega | (dsimp only; omega))
        conv => whnf
        refine ⟨rfl, ?_⟩
        conv => whnf
        have hKK : ((C.getD v.s.toNat default).getD v.c.toNat default).r = (cdV C v).r := rfl
        rw [hKK]
        have hK : (cdV C v).r = (cdV C v).r := rfl
        generalize (cdV C v).r = K at hp hK hKK ⊢
        refine ⟨?_, fun hc => ?_, fun hc => ?_⟩
        · (try conv => whnf)
          (repeat' (first | exact True.intro | exact fun _ h => h | refine inR64_of ?_ ?_ | apply And.intro | refine maxLen_ge ?_)) <;> (first | omega | decide | (dsimp only; omega) | (dsimp only [List.length_cons, List.length_nil]; omega) | (intro hg; rw [hg]; rfl) | (intro hg hh; rw [hg, hh]; rfl) | (intro hg; simp [-List.getD_eq_getElem?_getD, -Int.default_eq_zero] at hg; first | omega | (refine inR64_of ?_ ?_ <;> omega) | (constructor <;> omega)) | (simp [-List.getD_eq_getElem?_getD, -Int.default_eq_zero]; done))
        · have hc : (bif decide (K < 1) then true else decide (9 < K)) = true := hc
          simp only [bif_t, bif_f, decide_eq_true_eq, decide_eq_false_iff_not, Bool.not_eq_true', Bool.not_eq_false', Bool.and_eq_true, Bool.or_eq_true, Bool.and_eq_false_iff, Bool.or_eq_false_iff, beq_iff_eq, bne_iff_ne, beq_eq_false_iff_ne, bne_eq_false_iff_eq, reduceCtorEq, false_and, and_false, true_and, and_true, or_false, false_or, or_true, true_or, not_true_eq_false, not_false_eq_true, Int.toNat_zero] at hc
          rw [if_pos (by omega)] at hp
          rw [← hp]
          conv => whnf
          refine ⟨?_, [], ?_⟩
          · (try conv => whnf)
            (repeat' (first | exact True.intro | exact fun _ h => h | refine inR64_of ?_ ?_ | apply And.intro | refine maxLen_ge ?_)) <;> (first | omega | (dsimp only; omega))
          conv => whnf
          refine ⟨rfl, ?_, trivial, trivial⟩
          all_goals repeat' (first | exact True.intro | refine leF_cons rfl ?_ ?_ | refine leS_cons rfl ?_ ?_ | (show PLe _ _ _ _; conv => whnf) | (show SLe _ _ _ _; conv => whnf) | (show PLeL _ _ _ _; conv => whnf) | apply And.intro | rfl | exact Nat.le_refl _ | exact fun _ _ => rfl | exact rowEq0 _ _)
        · have hc : (bif decide (K < 1) then true else decide (9 < K)) = false := hc
          simp only [bif_t, bif_f, decide_eq_true_eq, decide_eq_false_iff_not, Bool.not_eq_true', Bool.not_eq_false', Bool.and_eq_true, Bool.or_eq_true, Bool.and_eq_false_iff, Bool.or_eq_false_iff, beq_iff_eq, bne_iff_ne, beq_eq_false_iff_ne, bne_eq_false_iff_eq, reduceCtorEq, false_and, and_false, true_and, and_true, or_false, false_or, or_true, true_or, not_true_eq_false, not_false_eq_true, Int.toNat_zero] at hc
          rw [if_neg (by omega)] at hp
          obtain ⟨q, hq⟩ : ∃ q : Nat, (q : Int) = K - 1 := ⟨(K - 1).toNat, by omega⟩
          have hq2 : (K - 1).toNat = q := by omega
          have hrq := hr q (by omega)
          have hse := set_eqI (X := out) (i := q) (y := out.getD q default + 1)
          rw [ho] at hse
          rw [hq2] at hp
          conv => whnf
          rw [← hq]
          refine ⟨?_, (i + 1, out.set q (out.getD q default + 1)), ⟨hlt, by rw [List.length_set]; exact ho, fun k hk => ?_, hp⟩, ?_, rfl, rfl, ?_, ?_⟩
          · (try conv => whnf)
            rw [Int.toNat_natCast]
            (repeat' (first | exact True.intro | exact fun _ h => h | refine inR64_of ?_ ?_ | apply And.intro)) <;> first | omega | (dsimp only; omega)
          · have hk9 := hr k hk
            by_cases e : k = q
            · subst e
              rw [show (out.set k (out.getD k default + 1)).getD k default = out.getD k default + 1 by simp [List.getD, List.getElem?_set, show k < out.length by omega]]
              dsimp only; omega
            · rw [show (out.set q (out.getD q default + 1)).getD k default = out.getD k default by simp [List.getD, List.getElem?_set, Ne.symm e]]
              dsimp only; omega
          · dsimp only; omega
          all_goals repeat' (first | exact True.intro | refine leF_cons rfl ?_ ?_ | refine leS_cons rfl ?_ ?_ | (show PLe _ _ _ _; conv => whnf) | (show SLe _ _ _ _; conv => whnf) | (show PLeL _ _ _ _; conv => whnf) | apply And.intro | rfl | exact Nat.le_refl _ | exact fun _ _ => rfl | exact rowEq0 _ _)
          all_goals first | (rw [Int.toNat_natCast]; exact hse) | exact hse | (dsimp only; omega) | skip
      · rw [decide_eq_false hb]
        rw [if_pos hb] at hp
        rw [← hp]
        conv => whnf
        refine ⟨?_, fun _ => ?_, fun h => (by cases h)⟩
        · (try conv => whnf)
          (repeat' (first | exact True.intro | exact fun _ h => h | refine inR64_of ?_ ?_ | apply And.intro | refine maxLen_ge ?_)) <;> (first | omega | (dsimp only; omega))
        conv => whnf
        refine ⟨?_, [], ?_⟩
        · (try conv => whnf)
          (repeat' (first | exact True.intro | exact fun _ h => h | refine inR64_of ?_ ?_ | apply And.intro | refine maxLen_ge ?_)) <;> (first | omega | (dsimp only; omega))
        conv => whnf
        refine ⟨rfl, ?_, trivial, trivial⟩
        all_goals repeat' (first | exact True.intro | refine leF_cons rfl ?_ ?_ | refine leS_cons rfl ?_ ?_ | (show PLe _ _ _ _; conv => whnf) | (show SLe _ _ _ _; conv => whnf) | (show PLeL _ _ _ _; conv => whnf) | apply And.intro | rfl | exact Nat.le_refl _ | exact fun _ _ => rfl | exact rowEq0 _ _)
    · replace hc := of_decide_eq_false hc
      have hk : i = l.length := by
        have h : ¬ (i : Int) < l.length := hc
        omega
      subst hk
      rw [List.drop_length] at hp
      have hp2 : (out, (0 : Int)) = cntL C (List.replicate 9 0) l := hp
      rw [← hp2]
      conv => whnf
      refine ⟨?_, [], ?_⟩
      · (try conv => whnf)
        (repeat' (first | exact True.intro | exact fun _ h => h | refine inR64_of ?_ ?_ | apply And.intro | refine maxLen_ge ?_)) <;> (first | omega | (dsimp only; omega))
      conv => whnf
      refine ⟨rfl, ?_, trivial, trivial⟩
      all_goals repeat' (first | exact True.intro | refine leF_cons rfl ?_ ?_ | refine leS_cons rfl ?_ ?_ | (show PLe _ _ _ _; conv => whnf) | (show SLe _ _ _ _; conv => whnf) | (show PLeL _ _ _ _; conv => whnf) | apply And.intro | rfl | exact Nat.le_refl _ | exact fun _ _ => rfl | exact rowEq0 _ _)
      all_goals first | exact ho.symm | skip
end Pv
end Go.Proofs.YtafnkpmoolbjjaaDoor
