import Derived.Test.YtidnlnnobegniaaM3
set_option linter.unusedVariables false
set_option linter.unusedSimpArgs false
namespace Go.AM
open Go.RowKit
variable {C : Ctx} {g : State} {o : Oper}

/-! ### M4. Operations on rows of rows -/
def lit1 (u : Value) : List T := [.lit u]
theorem vec_of_own {G : Heap} {w : World} {v : Value} {e : TypeId} {n : Nat} {us : List Value} (h : w.ownsRow 0 e 1 v n us) (h1 : ∀ u, u ∈ us → u.oneCell' = true) : VecRep G w v 1 e (us.map lit1) := by
  have hn : us.length = n := by simpa using h.1
  subst hn
  refine ⟨?_, us, by simpa using h, ?_⟩
  · intro i cells hi
    simp only [List.getElem?_map, Option.map_eq_some_iff] at hi
    obtain ⟨u, _, rfl⟩ := hi
    rfl
  · intro i cells k t hi hk
    simp only [List.getElem?_map, Option.map_eq_some_iff] at hi
    obtain ⟨u, hu, rfl⟩ := hi
    match k, hk with
    | 0, hk =>
      simp [lit1] at hk
      subst hk
      exact ⟨u, by simpa using hu, h1 u (List.mem_of_getElem? hu), .lit u⟩
    | k + 1, hk => simp [lit1] at hk

theorem own_of_vec {G : Heap} {w : World} {v : Value} {e : TypeId} {us : List Value} (h : VecRep G w v 1 e (us.map lit1)) : w.ownsRow 0 e 1 v us.length us ∧ ∀ u, u ∈ us → u.oneCell' = true := by
  obtain ⟨_, xs, h1, h2⟩ := h
  have hl : xs.length = us.length := by have := h1.1; simpa using this
  have hx : ∀ (i : Nat) (u : Value), us[i]? = some u → xs[i]? = some u ∧ u.oneCell' = true := by
    intro i u hu
    obtain ⟨u', g1, g2, g3⟩ := h2 i (lit1 u) 0 (.lit u) (by simp [hu]) rfl
    have := g3.lit_inv
    subst this
    exact ⟨by simpa using g1, g2⟩
  have he : xs = us := by
    apply List.ext_getElem?
    intro i
    by_cases hi : i < us.length
    · rw [(hx i us[i] (List.getElem?_eq_getElem hi)).1, List.getElem?_eq_getElem hi]
    · rw [List.getElem?_eq_none (by omega), List.getElem?_eq_none (by omega)]
  subst he
  refine ⟨by simpa using h1, fun u hu => ?_⟩
  obtain ⟨i, hi, rfl⟩ := List.mem_iff_getElem.1 hu
  exact (hx i _ (List.getElem?_eq_getElem hi)).2

theorem bytes_of_vec {G : Heap} {w : World} {v : Value} {e : TypeId} {bs : List Int} (h : VecRep G w v 1 e (byteRows bs)) : BytesAt w e v bs := by
  have : byteRows bs = (bs.map (Value.int .u8)).map lit1 := by simp [byteRows, lit1]
  rw [this] at h
  have := (own_of_vec h).1
  simpa [BytesAt] using this
theorem vec_of_bytes {G : Heap} {w : World} {v : Value} {e : TypeId} {bs : List Int} (h : BytesAt w e v bs) : VecRep G w v 1 e (byteRows bs) := by
  have : byteRows bs = (bs.map (Value.int .u8)).map lit1 := by simp [byteRows, lit1]
  rw [this]
  exact vec_of_own h (by intro u hu; obtain ⟨x, _, rfl⟩ := List.mem_map.1 hu; rfl)

theorem NestU.slices {w : World} {e eb : TypeId} {ms : List (List Int)} {h : Option Nat} {v : Value} {Y : Nat → Prop} {vs us : List Value} (hn : NestU w e eb ms h v Y vs us) {i : Nat} {u : Value} (hu : us[i]? = some u) : ∃ A n c, u = .slice A n c := by
  have hi : i < us.length := (List.getElem?_eq_some_iff.1 hu).1
  rw [hn.len] at hi
  by_cases hh : h = some i
  · obtain ⟨_, u', h1, _, h2⟩ := hn.hole i hh
    rw [hu] at h1; injection h1 with h1; rw [h1]; exact h2
  · obtain ⟨A, c, h1⟩ := own_slice (hn.own i _ u (List.getElem?_eq_getElem hi) hu hh)
    exact ⟨A, _, c, h1⟩
theorem NestU.one {w : World} {e eb : TypeId} {ms : List (List Int)} {h : Option Nat} {v : Value} {Y : Nat → Prop} {vs us : List Value} (hn : NestU w e eb ms h v Y vs us) : ∀ u, u ∈ us → u.oneCell' = true := by
  intro u hu
  obtain ⟨i, hi, rfl⟩ := List.mem_iff_getElem.1 hu
  obtain ⟨A, n, c, e⟩ := hn.slices (List.getElem?_eq_getElem hi)
  rw [e]; rfl
theorem NestU.vec {G : Heap} {w : World} {e eb : TypeId} {ms : List (List Int)} {h : Option Nat} {v : Value} {Y : Nat → Prop} {vs us : List Value} (hn : NestU w e eb ms h v Y vs us) : VecRep G w v 1 e (us.map lit1) := vec_of_own hn.row hn.one

/-- Where an element's slice stands. -/
theorem NestU.cell {w : World} {e eb : TypeId} {ms : List (List Int)} {h : Option Nat} {v : Value} {Y : Nat → Prop} {vs us : List Value} (hn : NestU w e eb ms h v Y vs us) {i : Nat} {u : Value} (hu : us[i]? = some u) :
    ∃ b c cur, v = .slice (some ⟨b, 0, none⟩) ms.length c ∧ w.heap[b]? = some (.cells cur e (0, 0)) ∧ cur[i]? = some u := by
  have hi : i < us.length := (List.getElem?_eq_some_iff.1 hu).1
  rw [hn.len] at hi
  rcases hn.row.2 with ⟨_, h1⟩ | ⟨b, c, cur, h1, _, h2, _, _, _, h3⟩
  · omega
  · refine ⟨b, c, cur, h1, h2, ?_⟩
    rw [← h3, List.getElem?_take] at hu
    split at hu
    · simpa using hu
    · simp at hu

theorem ok_len_slen {t e : TypeId} {i : TInfo} {x : Operand} {n : Nat} (ho : o.op = .call { callee := .builtin .len, args := #[x], argTypes := #[t] }) (hd : dstOK C o.dst) (ht : tinfo C.P t = some i) (hk : i.k = .slice e)
    (hx : ev g x = some (.v (.one (.slen n)))) : OpOK C o ⟨evr g x, wrD o.dst (sv (.int .i64 n)), []⟩ :=
  opok_pure hd fun G ρ s a w hrel hr => by
    obtain ⟨_, A, c, h1⟩ := ev_rep hx hr hrel
    refine ⟨.int .i64 n, ?_, sv_rep rfl⟩
    rw [exec_builtin1 ho w rfl, h1, run_len_slice ht hk]; rfl

theorem ok_len_nest {t e e' eb : TypeId} {i : TInfo} {x : Operand} {κ : Nat} {ms : List (List Int)} {h : Option Nat} {ks : List Nat} (ho : o.op = .call { callee := .builtin .len, args := #[x], argTypes := #[t] }) (hd : dstOK C o.dst) (ht : tinfo C.P t = some i) (hk : i.k = .slice e)
    (hx : ev g x = some (.v (.one (.row κ)))) : OpOK C o ⟨evr g x ++ [(.vec κ, .o (.nest e' eb ms h) ks)], wrD o.dst (sv (.int .i64 ms.length)), []⟩ :=
  opok_pure hd fun G ρ s a w hrel hr => by
    obtain ⟨r1, r2⟩ := Reads.app.1 hr
    have r2 := (Reads.cons.1 r2).1
    obtain ⟨_, e1, _⟩ := ev_rep hx r1 hrel
    obtain ⟨Y, hn, _⟩ := hrel.vec κ _ r2
    obtain ⟨A, c, h1⟩ := hn.slice
    refine ⟨.int .i64 ms.length, ?_, sv_rep rfl⟩
    rw [exec_builtin1 ho w rfl, e1, h1, run_len_slice ht hk]; rfl

theorem ok_idx_nest {t e e' eb : TypeId} {i j : TInfo} {x z : Operand} {yz : SV} {k : IntKind} {ix : Int} {κ : Nat} {ms : List (List Int)} {h : Option Nat} {ks : List Nat} (ho : o.op = .indexAddr t x z) (hd : dstOK C o.dst) (ht : tinfo C.P t = some i) (hk : i.k = .slice e) (hj : tinfo C.P e = some j) (hj1 : j.size = 1)
    (hx : ev g x = some (.v (.one (.row κ)))) (hz : ev g z = some yz) (hvz : litV yz = some (.int k ix)) (h0 : 0 ≤ ix) (hlt : ix.toNat < ms.length) :
    OpOK C o ⟨evr g x ++ evr g z ++ [(.vec κ, .o (.nest e' eb ms h) ks)], wrD o.dst (.v (.one (.vptr κ 1 ix.toNat 0))), []⟩ :=
  opok_pure hd fun G ρ s a w hrel hr => by
    obtain ⟨r12, r3⟩ := Reads.app.1 hr
    obtain ⟨r1, r2⟩ := Reads.app.1 r12
    have r3 := (Reads.cons.1 r3).1
    obtain ⟨_, e1, _⟩ := ev_rep hx r1 hrel
    have e2 := (litV_rep hvz (ev_rep hz r2 hrel)).1
    obtain ⟨Y, ⟨us, hn⟩, _⟩ := hrel.vec κ _ r3
    have hus : us[ix.toNat]? = some (us[ix.toNat]'(by rw [hn.len]; exact hlt)) := List.getElem?_eq_getElem _
    obtain ⟨b, c, cur, f1, f2, f3⟩ := hn.cell hus
    refine ⟨.pointer (some ⟨b, ix.toNat * 1, none⟩), ?_, ⟨rfl, b, ms.length, c, f1, by simp⟩⟩
    have := run_indexAt_slice ht hk hj (P := C.P) ⟨b, 0, none⟩ ms.length c k ix h0 (by omega) w
    rw [Addr.add_lit, Nat.zero_add, hj1] at this
    simp [execOp, ho, e1, f1, e2, this]

theorem ok_load_nest {t e' eb : TypeId} {i : TInfo} {x : Operand} {κ κm ix : Nat} {ms : List (List Int)} (ho : o.op = .load t x) (hd : dstOK C o.dst) (ht : tinfo C.P t = some i) (h1 : i.size = 1) (h2 : i.agg = false)
    (hx : evp g x = some (.v (.one (.vptr κ 1 ix 0)))) : OpOK C o ⟨evr g x ++ [(.vec κ, .o (.nest e' eb ms (some ix)) [κm])], wrD o.dst (.v (.one (.row κm))), []⟩ :=
  opok_pure hd fun G ρ s a w hrel hr => by
    obtain ⟨r1, r2⟩ := Reads.app.1 hr
    have r2 := (Reads.cons.1 r2).1
    obtain ⟨_, b, n, c, e1, e2⟩ := evp_rep hx r1 hrel
    obtain ⟨Y, ⟨us, hn⟩, _⟩ := hrel.vec κ _ r2
    obtain ⟨hlt, u, hu, hvs, A, n', c', hs⟩ := hn.hole ix rfl
    obtain ⟨b', c2, cur, f1, f2, f3⟩ := hn.cell hu
    rw [e1] at f1
    simp at f1
    obtain ⟨rfl, _, _⟩ := f1
    have := run_loadVar ht w ⟨b, ix * 1 + 0, none⟩ [u] (by simp [h1]) (fun _ => rfl) fun j v hj => by
      match j, hj with
      | 0, hj =>
        simp at hj; subst hj
        rw [Addr.add_lit]
        simp [World.cell?, f2, f3]
      | j + 1, hj => simp at hj
    rw [h2] at this
    simp only [Bool.false_eq_true, if_false, List.headD] at this
    simp only [List.map_cons, List.map_nil, List.cons.injEq, and_true] at hvs
    refine ⟨u, by simp only [Nat.mul_one, Nat.add_zero] at this e2; simp [execOp, ho, e2, Instr.loadAt, Instr.sureAddr, this], ⟨by rw [hs]; rfl, hvs.symm, A, n', c', by rw [hvs]; exact hs⟩⟩

theorem fill_one (z u : Value) (hz : z.cells.size = 1) (hu : u.oneCell' = true) : Instr.fill (fun i => some (i * 1, 1)) (madeCells z.cells (1 * 1)) [(0, u)] = some #[u] := by
  have h1 := cells_one hu
  have hm : (madeCells z.cells 1).size = 1 := size_madeCells _ _
  obtain ⟨q, hq⟩ : ∃ q, madeCells z.cells 1 = #[q] := by
    match hx : madeCells z.cells 1 with
    | ⟨[q]⟩ => exact ⟨q, rfl⟩
    | ⟨[]⟩ => rw [hx] at hm; simp at hm
    | ⟨_ :: _ :: _⟩ => rw [hx] at hm; simp at hm
  simp [Instr.fill, hq, h1]

theorem ok_one {t e : TypeId} {i j : TInfo} {x : Operand} {κ κc : Nat} (ho : o.op = .buildSlice t 1 #[(0, x)]) (hd : dstOK C o.dst) (ht : tinfo C.P t = some i) (hk : i.k = .slice e) (hj : tinfo C.P e = some j) (hj1 : j.size = 1)
    (hx : ev g x = some (.v (.one (.row κc)))) (hκc : κc ≠ κ) : OpOK C o ⟨evr g x, [(.vec κ, some (.o (.one e) [κc]))] ++ wrD o.dst (.v (.one (.row κ))), [κ]⟩ :=
  opok_val hd fun G ρ s a w hrel hr hf => by
    obtain ⟨h1, e1, A, n, c, e2⟩ := ev_rep hx hr hrel
    obtain ⟨inf, d, z, hs⟩ := tinfo_spec hj
    have hrun : (Instr.buildSlice t 1 (#[(0, x)].map fun p => (p.1, a.eval p.2))).run C.P w = .ok (.slice (some ⟨w.heap.size, 0, none⟩) 1 1) { w with heap := w.heap.push (.cells #[ρ κc] e) } :=
      run_buildSlice (P := C.P) w t e 1 _ #[ρ κc] inf z (und_slice ht hk) hs.info hs.zero (by rw [hs.size, hj1]; omega) (by rw [hs.size, hj1]; omega) (by
        rw [hs.size, hj1]
        have := fill_one z (a.eval x) (by rw [hs.zsize, hj1]) h1
        rw [e1] at this
        simp only [madeCells] at this
        simpa [e1] using this)
    have hex : (execOp a.eval o).run C.P w = .ok (.value (.slice (some ⟨w.heap.size, 0, none⟩) 1 1)) { w with heap := w.heap.push (.cells #[ρ κc] e) } := by
      simp only [execOp, ho, Sem.run_bind, hrun, Result.andThen_ok, Sem.run_pure]
    refine ⟨_, _, G, setX ρ κ (.slice (some ⟨w.heap.size, 0, none⟩) 1 1) fun _ => False, hex, ?_, ⟨rfl, (setX_same _ _ _ _).symm, _, _, _, setX_same _ _ _ _⟩⟩
    refine hrel.newTag (hf κ (by simp)) (Grew.push w _) (by intro k hk; simp at hk; rw [hk]; exact hκc) ?_ ?_
    · refine ⟨ρ κc, rfl, ⟨rfl, .inr ⟨w.heap.size, 1, #[ρ κc], rfl, Nat.zero_le _, heap_push _ _, Nat.le_refl _, by simp [maxLen], rfl, rfl⟩⟩, A, n, c, e2⟩
    · intro b hb
      simp [blk] at hb
      subst hb
      simp

/-- One more row, which was the act's own. -/
theorem ok_app_nest {x z : Operand} {t u e e' eb : TypeId} {i iu j : TInfo} {κr κ2 κc κ3 : Nat} {ms : List (List Int)} {h : Option Nat} {ks : List Nat} {bs : List Int} (ho : o.op = .call { callee := .builtin .append, args := #[x, z], argTypes := #[t, u] }) (hd : dstOK C o.dst)
    (ht : tinfo C.P t = some i) (hk : i.k = .slice e) (hu : tinfo C.P u = some iu) (hku : iu.k = .slice e') (hj : tinfo C.P e = some j) (hj1 : j.size = 1) (hx : ev g x = some (.v (.one (.row κr)))) (hz : ev g z = some (.v (.one (.row κ2))))
    (hlen : ms.length + 1 ≤ maxLen) (hbytes : (ms.length + 1) * j.bytes ≤ 140737488355328) (hh : ∀ i, h = some i → i < ms.length) (hks : κ3 ∉ ks) :
    OpOK C o ⟨evr g x ++ evr g z ++ [(.vec κr, .o (.nest e eb ms h) ks), (.vec κ2, .o (.one e) [κc]), (.vec κc, .r 1 eb (byteRows bs))], [(.vec κr, none), (.vec κ2, none), (.vec κc, none), (.vec κ3, some (.o (.nest e eb (ms ++ [bs]) h) ks))] ++ wrD o.dst (.v (.one (.row κ3))), [κ3]⟩ :=
  opok_val hd fun G ρ s a w hrel hr hf => by
    obtain ⟨r12, r3⟩ := Reads.app.1 hr
    obtain ⟨r1, r2⟩ := Reads.app.1 r12
    obtain ⟨q1, r3⟩ := Reads.cons.1 r3
    obtain ⟨q2, r3⟩ := Reads.cons.1 r3
    obtain ⟨q3, _⟩ := Reads.cons.1 r3
    simp only at q1 q2 q3
    obtain ⟨_, e1, _⟩ := ev_rep hx r1 hrel
    obtain ⟨_, e2, _⟩ := ev_rep hz r2 hrel
    obtain ⟨Y, ⟨us, hn⟩, hYX⟩ := hrel.vec κr _ q1
    obtain ⟨u0, hu0, hrow2, A, nn, cc, hA⟩ := hrel.vec κ2 _ q2
    simp only [List.map_cons, List.map_nil, List.cons.injEq, and_true] at hu0
    have hbv : VecRep G w (ρ κc) 1 eb (byteRows bs) := hrel.vec κc _ q3
    have hbytesC := bytes_of_vec hbv
    have hκ12 : κr ≠ κ2 := by rintro rfl; rw [q1] at q2; simp at q2
    have hκ1c : κr ≠ κc := by rintro rfl; rw [q1] at q3; simp at q3
    have hκ2c : κ2 ≠ κc := by rintro rfl; rw [q2] at q3; simp at q3
    have hfresh : ¬ Mentions s κ3 := hf κ3 (by simp)
    have hv2 : VecRep G w (ρ κ2) 1 e [lit1 u0] := by
      have := vec_of_own (G := G) hrow2 (by intro x hx; simp at hx; rw [hx, hA]; rfl)
      simpa using this
    obtain ⟨news, hsrc⟩ := src_vec hv2
    obtain ⟨v', w', g1, g2, g3, g4⟩ := append_rep (P := C.P) (t := t) (u := u) (ty := o.type) (j := j) ht hk hu hku hj (by omega) (rows := us.map lit1) (xr := [lit1 u0]) (vx := ρ κ2) (v := ρ κr) (G := G) (by rw [hj1]; exact hn.vec) (news := news) (by rw [hj1]; exact hsrc) (by simp [hn.len]; exact hlen) (by simp [hn.len]; exact hbytes)
    rw [hj1] at g2
    have g2' : VecRep G w' v' 1 e ((us ++ [u0]).map lit1) := by simpa using g2
    obtain ⟨g5, g6⟩ := own_of_vec g2'
    have hul : (us ++ [u0]).length = (ms ++ [bs]).length := by simp [hn.len]
    rw [hul] at g5
    rw [← e1, ← e2] at g1
    -- the blocks
    have howr : ∀ b, Y b → Owns ρ (.vec κr) κr b := fun b hb => (hYX b hb).imp id fun h => ⟨rfl, h⟩
    have hblkr : ∀ b, (ρ κr).ownBlock = some b → Owns ρ (.vec κr) κr b := fun b hb => .inl (ownBlock_blk hb)
    have hsame : ∀ b, b < w.heap.size → blk (ρ κr) ≠ some b → w'.heap[b]? = w.heap[b]? := fun b hb hne => g3.block b hb fun e => hne (ownBlock_blk e.symm)
    have hcblk : ∀ b, blk u0 = some b → Owns ρ (.vec κc) κc b := fun b hb => .inl (by rw [hu0]; exact hb)
    have hcne : ∀ b, blk u0 = some b → ¬ Owns ρ (.vec κr) κr b := fun b hb ho => hκ1c (hrel.inj _ _ _ _ κr κc b q1 q3 rfl rfl ho (hcblk b hb))
    have hvnew : ∀ b, blk v' = some b → blk (ρ κr) = some b ∨ w.heap.size ≤ b := g4
    let Y' : Nat → Prop := fun b => Y b ∨ blk u0 = some b ∨ blk v' = some b
    have hYlt : ∀ b, Y b → b < w.heap.size := fun b hb => (hrel.live _ _ κr b q1 rfl (howr b hb)).2.1
    have hnest : NestU w' e eb (ms ++ [bs]) h v' Y' (ks.map ρ.v) (us ++ [u0]) := by
      refine ⟨g5, fun b hb => .inr (.inr hb), ?_, ?_, ?_, ?_⟩
      · intro i' m u' hm hu' hh'
        by_cases hi : i' < ms.length
        · rw [List.getElem?_append_left hi] at hm
          rw [List.getElem?_append_left (by rw [hn.len]; exact hi)] at hu'
          refine own_same (hn.own i' m u' hm hu' hh') fun b hb => ?_
          obtain ⟨k1, k2⟩ := hn.ownB i' u' b hu' hh' hb
          exact hsame b (hYlt b k1) k2
        · rw [List.getElem?_append_right (by omega)] at hm
          rw [List.getElem?_append_right (by rw [hn.len]; omega), hn.len] at hu'
          have hi0 : i' - ms.length = 0 := by
            rcases Nat.eq_zero_or_pos (i' - ms.length) with h0 | h0
            · exact h0
            · rw [List.getElem?_eq_none (by simp; omega)] at hm; simp at hm
          rw [hi0] at hm hu'
          simp at hm hu'
          subst hm; subst hu'
          rw [hu0] at hbytesC
          refine own_same hbytesC fun b hb => ?_
          exact hsame b (hrel.live _ _ κc b q3 rfl (hcblk b hb)).2.1 fun e => hcne b hb (.inl e)
      · intro i' u' b hu' hh' hb
        by_cases hi : i' < ms.length
        · rw [List.getElem?_append_left (by rw [hn.len]; exact hi)] at hu'
          obtain ⟨k1, k2⟩ := hn.ownB i' u' b hu' hh' hb
          refine ⟨.inl k1, fun e => ?_⟩
          rcases hvnew b e with h1 | h1
          · exact k2 h1
          · have := hYlt b k1; omega
        · rw [List.getElem?_append_right (by rw [hn.len]; omega), hn.len] at hu'
          have hi0 : i' - ms.length = 0 := by
            rcases Nat.eq_zero_or_pos (i' - ms.length) with h0 | h0
            · exact h0
            · rw [List.getElem?_eq_none (by simp; omega)] at hu'; simp at hu'
          rw [hi0] at hu'
          simp at hu'
          subst hu'
          refine ⟨.inr (.inl hb), fun e => ?_⟩
          rcases hvnew b e with h1 | h1
          · exact hcne b hb (.inl h1)
          · have := (hrel.live _ _ κc b q3 rfl (hcblk b hb)).2.1; omega
      · intro i' hi'
        obtain ⟨k1, u', k2, k3, k4⟩ := hn.hole i' hi'
        exact ⟨by simp; omega, u', by rw [List.getElem?_append_left (by rw [hn.len]; exact k1)]; exact k2, k3, k4⟩
      · have hcase : ∀ i' u', (us ++ [u0])[i']? = some u' → (i' < ms.length ∧ us[i']? = some u') ∨ (i' = ms.length ∧ u' = u0) := by
          intro i' u' hu'
          by_cases hi : i' < ms.length
          · rw [List.getElem?_append_left (by rw [hn.len]; exact hi)] at hu'
            exact .inl ⟨hi, hu'⟩
          · rw [List.getElem?_append_right (by rw [hn.len]; omega), hn.len] at hu'
            have hi0 : i' - ms.length = 0 := by
              rcases Nat.eq_zero_or_pos (i' - ms.length) with h0 | h0
              · exact h0
              · rw [List.getElem?_eq_none (by simp; omega)] at hu'; simp at hu'
            rw [hi0] at hu'
            simp at hu'
            exact .inr ⟨by omega, hu'.symm⟩
        intro i1 i2 u1 u2 b h1 h2 n1 n2 b1 b2
        rcases hcase i1 u1 h1 with ⟨c1, d1⟩ | ⟨c1, rfl⟩ <;> rcases hcase i2 u2 h2 with ⟨c2, d2⟩ | ⟨c2, rfl⟩
        · exact hn.apart i1 i2 u1 u2 b d1 d2 n1 n2 b1 b2
        · exact absurd (howr b (hn.ownB i1 u1 b d1 n1 b1).1) (hcne b b2)
        · exact absurd (howr b (hn.ownB i2 u2 b d2 n2 b2).1) (hcne b b1)
        · omega
    have hsl : ∃ A c, v' = .slice A (ms ++ [bs]).length c := own_slice g5
    obtain ⟨A', c', hA'⟩ := hsl
    refine ⟨v', w', G, setX ρ κ3 v' Y', run_append ho v' w' g1, ?_, ⟨by rw [hA']; rfl, (setX_same _ _ _ _).symm, A', _, c', by rw [setX_same]; exact hA'⟩⟩
    have hne : ∀ k, Mentions s k → k ≠ κ3 := fun k hk e => hfresh (e ▸ hk)
    have hs' : ∀ l x, applys s [(Loc.vec κr, none), (.vec κ2, none), (.vec κc, none), (.vec κ3, some (.o (.nest e eb (ms ++ [bs]) h) ks))] l = some x → (s l = some x ∧ l ≠ .vec κr ∧ l ≠ .vec κ2 ∧ l ≠ .vec κc ∧ l ≠ .vec κ3) ∨ (l = .vec κ3 ∧ x = .o (.nest e eb (ms ++ [bs]) h) ks) := by
      intro l x hl
      simp only [applys, List.foldl_cons, List.foldl_nil, upd] at hl
      by_cases h3 : l = .vec κ3
      · rw [if_pos h3] at hl; injection hl with hl; exact .inr ⟨h3, hl.symm⟩
      · rw [if_neg h3] at hl
        by_cases h4 : l = .vec κc
        · rw [if_pos h4] at hl; simp at hl
        · rw [if_neg h4] at hl
          by_cases h5 : l = .vec κ2
          · rw [if_pos h5] at hl; simp at hl
          · rw [if_neg h5] at hl
            by_cases h6 : l = .vec κr
            · rw [if_pos h6] at hl; simp at hl
            · rw [if_neg h6] at hl; exact .inl ⟨hl, h6, h5, h4, h3⟩
    have how3 : ∀ b, Owns (setX ρ κ3 v' Y') (.vec κ3) κ3 b → Y' b := by
      rintro b (hb | ⟨_, hb⟩)
      · rw [setX_same] at hb; exact .inr (.inr hb)
      · rw [setX_X_same] at hb; exact hb
    refine hrel.trade g3.os g3.tape g3.output g3.size (D := [κr, κ2, κc]) (N := [κ3]) ?_ ?_ ?_ (fun k hk => setX_ne _ _ _ (hne k hk)) (fun k hk _ => setX_X_ne _ _ _ (hne k hk)) ?_ ?_ ?_
    · intro k hk
      simp only [List.mem_cons, List.not_mem_nil, or_false] at hk
      rcases hk with rfl | rfl | rfl
      · exact ⟨_, q1⟩
      · exact ⟨_, q2⟩
      · exact ⟨_, q3⟩
    · intro b hb hno
      exact hsame b hb fun e => hno κr (by simp) (.inl e)
    · intro l x hl
      rcases hs' l x hl with ⟨h1, h2, h3, h4, h5⟩ | ⟨rfl, _⟩
      · refine .inl ⟨h1, fun k hk => ?_⟩
        simp only [List.mem_cons, List.not_mem_nil, or_false] at hk
        rcases hk with rfl | rfl | rfl
        · exact h2
        · exact h3
        · exact h4
      · exact .inr ⟨κ3, by simp, rfl⟩
    · intro k x hk hx
      simp at hk; subst hk
      rcases hs' _ x hx with ⟨_, _, _, _, h5⟩ | ⟨_, rfl⟩
      · exact absurd rfl h5
      · show Tag.rep (.nest e eb (ms ++ [bs]) h) w' (setX ρ k v' Y' k) ((setX ρ k v' Y').X k) (ks.map (setX ρ k v' Y').v)
        rw [setX_same, setX_X_same]
        have : ks.map (setX ρ k v' Y').v = ks.map ρ.v := List.map_congr_left fun k' hk' => setX_ne _ _ _ (by rintro rfl; exact hks hk')
        rw [this]
        exact ⟨Y', ⟨_, hnest⟩, fun b hb => .inr hb⟩
    · intro k x b hk hx hb
      simp at hk; subst hk
      have hY := how3 b hb
      rcases hY with hY | hY | hY
      · exact ⟨Nat.lt_of_lt_of_le (hYlt b hY) g3.size, .inl ⟨κr, by simp, howr b hY⟩⟩
      · exact ⟨Nat.lt_of_lt_of_le (hrel.live _ _ κc b q3 rfl (hcblk b hY)).2.1 g3.size, .inl ⟨κc, by simp, hcblk b hY⟩⟩
      · refine ⟨g2.blk_lt hY, ?_⟩
        rcases hvnew b hY with h1 | h1
        · exact .inl ⟨κr, by simp, .inl h1⟩
        · exact .inr h1
    · intro k k' b hk hk' _ _
      simp at hk hk'; rw [hk, hk']

/-! #### a row of bytes that is converted: a tree from then on -/
theorem RelG.addG {G : Heap} {ρ : Places} {s : State} {a : Act} {w : World} (h : RelG C G ρ s a w) (b0 : Nat) (hB : C.MV b0 ∨ C.w0.heap.size ≤ b0) (hno : ∀ l c κ, s l = some c → l.key = some κ → ¬ Owns ρ l κ b0) :
    RelG C (fun b => if b = b0 then w.heap[b]? else G b) ρ s a w ∧ GExt G (fun b => if b = b0 then w.heap[b]? else G b) := by
  let G' : Heap := fun b => if b = b0 then w.heap[b]? else G b
  have hG : GExt G G' := fun b o hb => by
    show (if b = b0 then w.heap[b]? else G b) = some o
    split
    · exact h.gle b o hb
    · exact hb
  have hle : GLe G' w := fun b o hb => by
    change (if b = b0 then w.heap[b]? else G b) = some o at hb
    split at hb
    · exact hb
    · exact h.gle b o hb
  refine ⟨⟨h.os, h.tape, h.output, h.size, h.block, hle, fun b o hb => hG b o (h.g0 b o hb), ?_, h.keep, h.old, h.defers, h.ntmps, ?_, h.inj, ?_, ?_, ?_⟩, hG⟩
  · intro b o hb
    change (if b = b0 then w.heap[b]? else G b) = some o at hb
    split at hb
    · rename_i e; subst e
      rcases hB with h1 | h1
      · exact .inr (.inr h1)
      · exact .inr (.inl h1)
    · exact h.gnew b o hb
  · intro l c κ b hl hk hb
    obtain ⟨h1, h2, h3⟩ := h.live l c κ b hl hk hb
    refine ⟨?_, h2, h3⟩
    show (if b = b0 then w.heap[b]? else G b) = none
    rw [if_neg]
    · exact h1
    · rintro rfl; exact hno l c κ hl hk hb
  · intro n x hx
    obtain ⟨v, y, e1, e2, e3⟩ := h.slot n x hx
    exact ⟨v, y, e1, e2, e3.move hG fun _ _ => rfl⟩
  · intro κ k x hx
    obtain ⟨y, b, u, c, e, e1, e2, e3, e4, e5⟩ := h.cell κ k x hx
    exact ⟨y, b, u, c, e, e1, e2, e3, e4, e5.move hG fun _ _ => rfl⟩
  · intro κ x hx
    exact (h.vec κ x hx).same hG fun _ _ => rfl

theorem run_mark {P : Program} {t e : TypeId} (ht : P.underlying t = some (.slice e)) (he : P.underlying e = some (.int .u8)) (w : World) (b n c : Nat) (cur : Array Value) (el : TypeId) (hb : w.heap[b]? = some (.cells cur el (0, 0))) :
    (convert t t (.slice (some ⟨b, 0, none⟩) n c)).run P w = .ok (.slice (some ⟨b, 0, none⟩) n c) (w.freeze ⟨b, cur.size, none⟩ 1) := by
  have hsh : w.shape? b = some (el, cur.size) := by simp [World.shape?, hb]
  simp [convert, run_underlying ht, run_underlying he, markStringish, hsh]

theorem ok_mark {t e et : TypeId} {i j : TInfo} {x : Operand} {κ : Nat} {r : List T} {rows : List (List T)} (ho : o.op = .convert t t x) (hd : dstOK C o.dst) (ht : tinfo C.P t = some i) (hk : i.k = .slice e) (hj : tinfo C.P e = some j) (hk2 : j.k = .int .u8)
    (hx : ev g x = some (.v (.one (.row κ)))) : OpOK C o ⟨evr g x ++ [(.vec κ, .r 1 et (r :: rows))], [(.vec κ, none)] ++ wrD o.dst (.v (.one (.t (.sl 1 (r :: rows))))), []⟩ :=
  opok_val hd fun G ρ s a w hrel hr hf => by
    obtain ⟨r1, r2⟩ := Reads.app.1 hr
    have r2 := (Reads.cons.1 r2).1
    obtain ⟨_, e1, _⟩ := ev_rep hx r1 hrel
    have hv : VecRep G w (ρ κ) 1 et (r :: rows) := hrel.vec κ _ r2
    obtain ⟨h0, xs, hown, hel⟩ := hv
    rcases hown.2 with ⟨_, h1⟩ | ⟨b, cap, cur, f1, f2, f3, f4, f5, f6, f7⟩
    · simp at h1
    have he : C.P.underlying e = some (.int .u8) := by
      obtain ⟨_, d, _, hs⟩ := tinfo_spec hj
      have h1 := hs.k
      have h2 := hs.und
      rw [hk2] at h1
      cases d <;> simp [tkOf] at h1
      subst h1
      exact h2
    have hrun := run_mark (P := C.P) (und_slice ht hk) he w b (r :: rows).length cap cur et f3
    let w' := w.freeze ⟨b, cur.size, none⟩ 1
    have hb' : w'.heap[b]? = some (.cells cur et (cur.size, cur.size + 1)) := by
      show (w.freeze ⟨b, cur.size, none⟩ 1).heap[b]? = _
      simp [World.freeze, Array.getElem?_modify, f3]
    have hoth : ∀ k, k ≠ b → w'.heap[k]? = w.heap[k]? := by
      intro k hk
      show (w.freeze ⟨b, cur.size, none⟩ 1).heap[k]? = _
      simp [World.freeze, Array.getElem?_modify, Ne.symm hk]
    have hgb : w.grownBy w' (ρ κ).ownBlock := by
      refine ⟨rfl, rfl, rfl, ?_, fun k _ hk => hoth k fun e => hk (by rw [f1, e]; rfl)⟩
      show w.heap.size ≤ (w.freeze ⟨b, cur.size, none⟩ 1).heap.size
      simp [World.freeze]
    have h1 := hrel.steal r2 hgb
    have hblk : blk (ρ κ) = some b := by rw [f1]; rfl
    obtain ⟨l1, l2, l3⟩ := hrel.live _ _ κ b r2 rfl (.inl hblk)
    have hB : C.MV b ∨ C.w0.heap.size ≤ b := by
      rcases l3 with ⟨_, h2, h3⟩ | h2 | h2
      · exact .inl ⟨κ, h2, h3⟩
      · exact .inl h2
      · exact .inr h2
    obtain ⟨h2, hG⟩ := h1.addG b hB fun l c k hl hk ho => by
      by_cases e : l = .vec κ
      · subst e; rw [upd_same] at hl; simp at hl
      · rw [upd_ne _ _ e] at hl
        have := hrel.inj l c _ _ k κ b hl r2 hk rfl ho (.inl hblk)
        subst this
        exact e (vec_only hrel r2 hl hk)
    refine ⟨.slice (some ⟨b, 0, none⟩) (r :: rows).length cap, w', _, ρ, ?_, h2, ⟨rfl, ?_⟩⟩
    · simp only [execOp, ho, e1, f1, Sem.run_bind, hrun, Result.andThen_ok, Sem.run_pure]; rfl
    · skip
      have hxx : ∀ (j : Nat) u, xs[j]? = some u → cur[j]? = some u := by
        intro j u hj
        rw [← f7, List.getElem?_take] at hj
        split at hj
        · simpa using hj
        · simp at hj
      refine .sl _ _ _ _ _ (fun i k => xs.getD (i * 1 + k) (.bool false)) rfl f4 h0 (.inl rfl) ?_ ?_
      · intro ad he i k hi hk
        simp at he
        subst he
        have hc : (r :: rows)[i]? = some (r :: rows)[i] := List.getElem?_eq_getElem hi
        obtain ⟨u, h1, h2, _⟩ := hel i _ k _ hc (List.getElem?_eq_getElem (by rw [h0 i _ hc]; exact hk))
        rw [List.getD_eq_getElem?_getD, h1]
        refine ⟨?_, h2⟩
        rw [add_add, Addr.add_lit]
        simp only [gcell, Nat.zero_add, if_true]
        rw [hb']
        simpa using hxx _ _ h1
      · intro i cells k t hi hk
        obtain ⟨u, h1, _, h3⟩ := hel i cells k t hi hk
        rw [List.getD_eq_getElem?_getD, h1]
        exact h3.ext hG
end Go.AM
