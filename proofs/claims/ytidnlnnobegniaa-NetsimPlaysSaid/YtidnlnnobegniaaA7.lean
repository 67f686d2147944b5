import Derived.Test.YtidnlnnobegniaaA6
import Derived.Laws.MakeOwn
import Derived.Laws.OwnMore
import Derived.Laws.BytesArg
import Derived.Great.BuildSlice
set_option linter.unusedVariables false
set_option linter.unusedSimpArgs false
namespace Go.AM
open Go.RowKit

variable {C : Ctx} {g : State} {o : Oper}

theorem add_add (a : Addr) (m n : Nat) : (a.add m).add n = a.add (m + n) := by
  unfold Addr.add
  by_cases e1 : m = 0 <;> by_cases e2 : n = 0 <;> simp [e1, e2, Nat.add_assoc]

/-! #### what a slice is read as -/
structure Src (G : Heap) (w : World) (v : Value) (sz : Nat) (rows : List (List T)) (news : List Value) : Prop where
  shape : ∀ (i : Nat) cells, rows[i]? = some cells → cells.length = sz
  len : news.length = rows.length * sz
  val : (v = .slice none 0 0 ∧ rows = []) ∨ ∃ ad c, v = .slice (some ad) rows.length c ∧ rows.length ≤ c ∧ ∀ (j : Nat) u, news[j]? = some u → w.cell? (ad.add j) = some u
  one : ∀ u, u ∈ news → u.oneCell' = true
  el : ∀ (i : Nat) cells (k : Nat) t, rows[i]? = some cells → cells[k]? = some t → ∃ u, news[i * sz + k]? = some u ∧ u.oneCell' = true ∧ VRep G u t

theorem src_tree {G : Heap} {w : World} {v : Value} {sz : Nat} {rows : List (List T)} (hg : GLe G w) (h : VRep G v (.sl sz rows)) : ∃ news, Src G w v sz rows news := by
  cases h with
  | sl A n c sz rows u hn hcap hsz hA hcell hrec =>
    have hcells : ∀ ad, A = some ad → ∀ j, j < n * sz → w.cell? (ad.add j) = some (u (j / sz) (j % sz)) ∧ (u (j / sz) (j % sz)).oneCell' = true := by
      intro ad he j hj
      have hpos : 0 < sz := by rcases Nat.eq_zero_or_pos sz with h | h; (subst h; simp at hj); exact h
      have h1 := hcell ad he (j / sz) (j % sz) (Nat.div_lt_of_lt_mul (by rwa [Nat.mul_comm])) (Nat.mod_lt _ hpos)
      rw [add_add, Nat.mul_comm, Nat.div_add_mod] at h1
      exact ⟨gcell_cell hg h1.1, h1.2⟩
    refine ⟨(List.range (n * sz)).map fun j => u (j / sz) (j % sz), ⟨hsz, by simp [hn], ?_, ?_, ?_⟩⟩
    · cases A with
      | none =>
        have hc0 : c = 0 := hA.resolve_left (by simp)
        subst hc0
        have hn0 : n = 0 := by omega
        subst hn0
        exact .inl ⟨rfl, List.eq_nil_of_length_eq_zero hn⟩
      | some ad =>
        refine .inr ⟨ad, c, by rw [hn], by omega, fun j v hj => ?_⟩
        have hlt : j < n * sz := by
          rcases Nat.lt_or_ge j (n * sz) with h | h
          · exact h
          · rw [List.getElem?_eq_none (by simpa using h)] at hj; simp at hj
        rw [List.getElem?_map, List.getElem?_range hlt] at hj
        simp at hj
        subst hj
        exact (hcells ad rfl j hlt).1
    · intro v hv
      simp only [List.mem_map, List.mem_range] at hv
      obtain ⟨j, hj, rfl⟩ := hv
      cases A with
      | none =>
        have hc0 : c = 0 := hA.resolve_left (by simp)
        have : n = 0 := by omega
        subst this
        simp at hj
      | some ad => exact (hcells ad rfl j hj).2
    · intro i cells k t hi hk
      have hil : i < n := by rw [← hn]; exact (List.getElem?_eq_some_iff.1 hi).1
      have hkl : k < sz := by rw [← hsz i cells hi]; exact (List.getElem?_eq_some_iff.1 hk).1
      have hj : i * sz + k < n * sz := by
        calc i * sz + k < i * sz + sz := by omega
          _ = (i + 1) * sz := by rw [Nat.add_mul, Nat.one_mul]
          _ ≤ n * sz := Nat.mul_le_mul_right _ hil
      have e1 : (i * sz + k) / sz = i := by
        rw [Nat.mul_comm, Nat.mul_add_div (by omega), Nat.div_eq_of_lt hkl]; omega
      have e2 : (i * sz + k) % sz = k := by
        rw [Nat.mul_comm, Nat.mul_add_mod, Nat.mod_eq_of_lt hkl]
      refine ⟨u i k, ?_, ?_, hrec i cells k t hi hk⟩
      · rw [List.getElem?_map, List.getElem?_range hj]
        simp [e1, e2]
      · cases A with
        | none =>
          have hc0 : c = 0 := hA.resolve_left (by simp)
          omega
        | some ad => exact (hcell ad rfl i k hil hkl).2

theorem src_vec {G : Heap} {w : World} {v : Value} {sz : Nat} {e : TypeId} {rows : List (List T)} (h : VecRep G w v sz e rows) : ∃ news, Src G w v sz rows news := by
  obtain ⟨h0, xs, hown, hel⟩ := h
  refine ⟨xs, ⟨h0, hown.1, ?_, ?_, hel⟩⟩
  · rcases hown.2 with ⟨rfl, hn⟩ | ⟨b, cap, cur, rfl, _, hb, h11, _, h13, h14⟩
    · exact .inl ⟨rfl, List.eq_nil_of_length_eq_zero hn⟩
    · exact .inr ⟨_, cap, rfl, h11, hown.cells (g := b) rfl⟩
  · intro u hu
    obtain ⟨j, hj, he⟩ := List.mem_iff_getElem.1 hu
    have hpos : 0 < sz := by rcases Nat.eq_zero_or_pos sz with h | h; (subst h; have := hown.1; simp at this; subst this; simp at hj); exact h
    have hjl : j < rows.length * sz := by rw [← hown.1]; exact hj
    have hi : j / sz < rows.length := Nat.div_lt_of_lt_mul (by rwa [Nat.mul_comm])
    have hk : j % sz < sz := Nat.mod_lt _ hpos
    have h1 : rows[j / sz]? = some rows[j / sz] := List.getElem?_eq_getElem hi
    have h2 := h0 _ _ h1
    obtain ⟨u', h3, h4, _⟩ := hel _ _ (j % sz) _ h1 (List.getElem?_eq_getElem (by omega))
    rw [Nat.mul_comm, Nat.div_add_mod, List.getElem?_eq_getElem hj, he] at h3
    injection h3 with h3
    rw [h3]; exact h4

/-! #### len -/
theorem run_len_slice {P : Program} {t e : TypeId} {i : TInfo} (ht : tinfo P t = some i) (hk : i.k = .slice e) (ad : Option Addr) (n c ty : Nat) (w : World) : (Builtin.len_ #[t] ty #[.slice ad n c]).run P w = .ok (.int .i64 n) w := by
  simp [Builtin.len_, run_underlying (und_slice ht hk), goInt]

theorem exec_builtin1 {P : Program} {a : Act} {b : Builtin} {x : Operand} {t : TypeId} (ho : o.op = .call { callee := .builtin b, args := #[x], argTypes := #[t] }) (w : World) (hb : b = .len) :
    (execOp a.eval o).run P w = ((Builtin.len_ #[t] o.type #[a.eval x]).run P w).andThen fun v w' => .ok (.value v) w' := by
  subst hb
  simp [execOp, ho, resolve, invoke, builtin]

theorem ok_len_tree {t e : TypeId} {i : TInfo} {x : Operand} {sz : Nat} {rows : List (List T)} (ho : o.op = .call { callee := .builtin .len, args := #[x], argTypes := #[t] }) (hd : dstOK C o.dst) (ht : tinfo C.P t = some i) (hk : i.k = .slice e)
    (hx : ev g x = some (.v (.one (.t (.sl sz rows))))) : OpOK C o ⟨evr g x, wrD o.dst (sv (.int .i64 rows.length)), []⟩ :=
  opok_pure hd fun G ρ s a w hrel hr => by
    obtain ⟨_, h1⟩ := ev_rep hx hr hrel
    generalize hv : a.eval x = v at h1
    cases h1 with
    | sl A n c sz rows u hn hcap hsz hA hcell hrec =>
      refine ⟨.int .i64 rows.length, ?_, sv_rep rfl⟩
      rw [exec_builtin1 ho w rfl, hv, run_len_slice ht hk, hn]; rfl

theorem ok_len_row {t e et : TypeId} {i : TInfo} {x : Operand} {κ sz : Nat} {rows : List (List T)} (ho : o.op = .call { callee := .builtin .len, args := #[x], argTypes := #[t] }) (hd : dstOK C o.dst) (ht : tinfo C.P t = some i) (hk : i.k = .slice e)
    (hx : ev g x = some (.v (.one (.row κ)))) : OpOK C o ⟨evr g x ++ [(.vec κ, .r sz et rows)], wrD o.dst (sv (.int .i64 rows.length)), []⟩ :=
  opok_pure hd fun G ρ s a w hrel hr => by
    obtain ⟨r1, r2⟩ := Reads.app.1 hr
    have r2 := (Reads.cons.1 r2).1
    obtain ⟨_, e1, _⟩ := ev_rep hx r1 hrel
    obtain ⟨sz', e', rows', g1, g2⟩ := hrel.vecr r2
    injection g1 with g1 g1' g1''
    subst g1; subst g1'; subst g1''
    obtain ⟨news, hs⟩ := src_vec g2
    refine ⟨.int .i64 rows.length, ?_, sv_rep rfl⟩
    rw [exec_builtin1 ho w rfl, e1]
    rcases hs.val with ⟨e2, e3⟩ | ⟨ad, c, e2, _⟩
    · rw [e2, run_len_slice ht hk, e3]; rfl
    · rw [e2, run_len_slice ht hk]; rfl

theorem ok_len_nil {t e : TypeId} {i : TInfo} {x : Operand} (ho : o.op = .call { callee := .builtin .len, args := #[x], argTypes := #[t] }) (hd : dstOK C o.dst) (ht : tinfo C.P t = some i) (hk : i.k = .slice e)
    (hx : ev g x = some (sv (.slice none 0 0))) : OpOK C o ⟨evr g x, wrD o.dst (sv (.int .i64 0)), []⟩ :=
  opok_pure hd fun G ρ s a w hrel hr => by
    have h1 := (ev_rep hx hr hrel).2.lit_inv
    refine ⟨.int .i64 0, ?_, sv_rep rfl⟩
    rw [exec_builtin1 ho w rfl, h1, run_len_slice ht hk]; rfl

/-! #### max, min -/
def mxv (mx : Bool) : Value → Value → Option Value
  | .int k x, .int k' y => if k = k' then some (.int k (if mx then (if y > x then y else x) else (if y < x then y else x))) else none
  | _, _ => none

theorem ok_max {x z : Operand} {t t' : TypeId} {yx yz : SV} {vx vz v : Value} (ho : o.op = .call { callee := .builtin .max, args := #[x, z], argTypes := #[t, t'] }) (hd : dstOK C o.dst) (hx : ev g x = some yx) (hz : ev g z = some yz) (hvx : litV yx = some vx) (hvz : litV yz = some vz)
    (h : mxv true vx vz = some v) : OpOK C o ⟨evr g x ++ evr g z, wrD o.dst (sv v), []⟩ :=
  opok_pure hd fun G ρ s a w hrel hr => by
    obtain ⟨h1, h2⟩ := Reads.app.1 hr
    have e1 := (litV_rep hvx (ev_rep hx h1 hrel)).1
    have e2 := (litV_rep hvz (ev_rep hz h2 hrel)).1
    unfold mxv at h
    split at h
    · split at h
      · rename_i hk
        subst hk
        injection h with h
        subst h
        refine ⟨_, ?_, sv_rep rfl⟩
        simp [execOp, ho, resolve, invoke, builtin, e1, e2, Builtin.max_, Builtin.max2]
      · simp at h
    · simp at h

theorem ok_min {x z : Operand} {t t' : TypeId} {yx yz : SV} {vx vz v : Value} (ho : o.op = .call { callee := .builtin .min, args := #[x, z], argTypes := #[t, t'] }) (hd : dstOK C o.dst) (hx : ev g x = some yx) (hz : ev g z = some yz) (hvx : litV yx = some vx) (hvz : litV yz = some vz)
    (h : mxv false vx vz = some v) : OpOK C o ⟨evr g x ++ evr g z, wrD o.dst (sv v), []⟩ :=
  opok_pure hd fun G ρ s a w hrel hr => by
    obtain ⟨h1, h2⟩ := Reads.app.1 hr
    have e1 := (litV_rep hvx (ev_rep hx h1 hrel)).1
    have e2 := (litV_rep hvz (ev_rep hz h2 hrel)).1
    unfold mxv at h
    split at h
    · split at h
      · rename_i hk
        subst hk
        injection h with h
        subst h
        refine ⟨_, ?_, sv_rep rfl⟩
        simp [execOp, ho, resolve, invoke, builtin, e1, e2, Builtin.min_, Builtin.min2]
      · simp at h
    · simp at h

/-! #### append -/
theorem append_types {P : Program} {t u ty e e' : TypeId} (ht : P.underlying t = some (.slice e)) (hu : P.underlying u = some (.slice e')) (args : Array Value) (w : World) : (Builtin.append_ #[t, u] ty args).run P w = (Builtin.append_ #[t, t] ty args).run P w := by
  simp only [Builtin.append_]
  cases h0 : args[0]? with
  | none => simp [h0]
  | some s =>
    cases h1 : args[1]? with
    | none => simp [h0, h1]
    | some x =>
      simp only [h0, h1, List.getElem?_toArray, List.getElem?_cons_zero, List.getElem?_cons_succ, Sem.run_bind, run_underlying ht, Result.andThen_ok]
      cases s <;> simp [run_underlying hu, run_underlying ht]

/-- A row that the act owns, and what is put behind it. -/
theorem append_rep {G : Heap} {w : World} {v vx : Value} {t u ty e e' : TypeId} {i j : TInfo} {iu : TInfo} {rows xr : List (List T)} {P : Program} (ht : tinfo P t = some i) (hk : i.k = .slice e) (hu : tinfo P u = some iu) (hku : iu.k = .slice e') (hj : tinfo P e = some j) (hpos : 0 < j.size)
    (hv : VecRep G w v j.size e rows) {news : List Value} (hx : Src G w vx j.size xr news) (hlen : (rows.length + xr.length) ≤ maxLen) (hbytes : (rows.length + xr.length) * j.bytes ≤ 140737488355328) :
    ∃ v' w', (Builtin.append_ #[t, u] ty #[v, vx]).run P w = .ok v' w' ∧ VecRep G w' v' j.size e (rows ++ xr) ∧ w.grownBy w' v.ownBlock ∧ (∀ b, blk v' = some b → blk v = some b ∨ w.heap.size ≤ b) := by
  obtain ⟨inf, d, z, hs⟩ := tinfo_spec hj
  have hut := und_slice ht hk
  rw [append_types hut (und_slice hu hku)]
  obtain ⟨h0, xs, hown, hel⟩ := hv
  have hshape : ∀ (i : Nat) cells, (rows ++ xr)[i]? = some cells → cells.length = j.size := by
    intro i cells hi
    by_cases hlt : i < rows.length
    · rw [List.getElem?_append_left hlt] at hi; exact h0 i cells hi
    · rw [List.getElem?_append_right (by omega)] at hi; exact hx.shape _ cells hi
  have hels : ∀ (i : Nat) cells (k : Nat) t, (rows ++ xr)[i]? = some cells → cells[k]? = some t → ∃ u, (xs ++ news)[i * j.size + k]? = some u ∧ u.oneCell' = true ∧ VRep G u t := by
    intro i cells k t hi hk
    have hkl : k < j.size := by rw [← hshape i cells hi]; exact (List.getElem?_eq_some_iff.1 hk).1
    by_cases hlt : i < rows.length
    · rw [List.getElem?_append_left hlt] at hi
      obtain ⟨u, h1, h2⟩ := hel i cells k t hi hk
      refine ⟨u, ?_, h2⟩
      rw [List.getElem?_append_left]
      · exact h1
      · exact (List.getElem?_eq_some_iff.1 h1).1
    · rw [List.getElem?_append_right (by omega)] at hi
      obtain ⟨u, h1, h2⟩ := hx.el _ cells k t hi hk
      refine ⟨u, ?_, h2⟩
      rw [List.getElem?_append_right]
      · rw [hown.1, ← h1]
        congr 1
        have : i * j.size = rows.length * j.size + (i - rows.length) * j.size := by rw [← Nat.add_mul]; congr 1; omega
        omega
      · rw [hown.1]
        have := Nat.mul_le_mul_right j.size (show rows.length ≤ i by omega)
        omega
  rcases hx.val with ⟨rfl, rfl⟩ | ⟨ad, c, rfl, hcap, hcells⟩
  · have hr := run_append_owned_none (P := P) (w := w) 0 t ty e inf j.size hut hs.info v rows.length xs hown
    refine ⟨v, w, hr, ?_, ⟨rfl, rfl, rfl, Nat.le_refl _, fun _ _ _ => rfl⟩, fun b hb => .inl hb⟩
    have hn : news = [] := List.eq_nil_of_length_eq_zero (by have := hx.len; simpa using this)
    subst hn
    simp only [List.append_nil] at hshape hels ⊢
    exact ⟨hshape, xs, hown, hels⟩
  · obtain ⟨v', w', h1, h2, h3, h4⟩ := run_append_own (P := P) w 0 t ty e inf z j.size j.bytes hut hs.info hs.zero hs.size hs.bytes hs.zsize hpos v rows.length xs hown ad xr.length c news hx.len hcells hx.one hlen hbytes (Nat.zero_le _)
    refine ⟨v', w', h1, ⟨hshape, xs ++ news, by rw [List.length_append]; exact h2, hels⟩, h3, fun b hb => ?_⟩
    rcases hown.2 with ⟨rfl, hn0⟩ | ⟨b', cap, cur, rfl, hbg, hb', hnc, hcm, hcs, htake⟩
    · -- out of nil: what comes is new, or nil
      obtain ⟨v2, w2, g1, g2, _, _⟩ := run_append_own (P := P) w w.heap.size t ty e inf z j.size j.bytes hut hs.info hs.zero hs.size hs.bytes hs.zsize hpos (.slice none 0 0) rows.length xs ⟨hown.1, .inl ⟨rfl, hn0⟩⟩ ad xr.length c news hx.len hcells hx.one hlen hbytes (Nat.le_refl _)
      rw [h1] at g1
      injection g1 with g1 g1'
      subst g1
      exact .inr (g2.lt b (own_block_of h2 hb)).1
    · have hxl : xs.length = rows.length * inf.size := by rw [hown.1, hs.size]
      have hnl : news.length = xr.length * inf.size := by rw [hx.len, hs.size]
      by_cases hroom : rows.length + xr.length ≤ cap
      · have hfit : rows.length * inf.size + news.length ≤ cur.size := by rw [hnl, hcs, hs.size, ← Nat.add_mul]; exact Nat.mul_le_mul_right _ hroom
        have hr := run_append_room (P := P) w t ty e inf hut hs.info b' rows.length cap cur hb' ad xr.length c news hnl hcells hx.one hroom hfit
        rw [h1] at hr
        injection hr with hr _
        subst hr
        exact .inl hb
      · have holds : ∀ (j : Nat) u, xs[j]? = some u → w.cell? ((⟨b', 0, none⟩ : Addr).add j) = some u := hown.cells (g := b') rfl
        have hm : rows.length + xr.length ≤ 9223372036854775807 := by simp only [maxLen] at hlen; omega
        have hr := run_append_grow (P := P) w t ty e inf z hut hs.info hs.zero ⟨b', 0, none⟩ rows.length cap xs hxl holds ad xr.length c news hnl hcells (by omega) (by omega) (growslice_fits (by omega) (by rw [hs.bytes]; exact hbytes))
        rw [h1] at hr
        injection hr with hr _
        subst hr
        simp [blk] at hb
        exact .inr (by omega)

end Go.AM
