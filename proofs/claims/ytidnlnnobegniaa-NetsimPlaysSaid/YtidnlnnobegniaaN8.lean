import Derived.Test.YtidnlnnobegniaaN7
import Derived.Shelf.SlicesE.Delete
set_option maxHeartbeats 4000000
set_option linter.unusedVariables false
set_option linter.unusedSimpArgs false
namespace Go.Proofs.Ytidnlnnobegniaa
open Go Go.AM Go.RowKit Go.Proofs Go.Sort

def rho : Shelf.Ren := ⟨fun f => if f = 45 then 27 else f, fun t => if t = 23 then 30 else t, fun g => g⟩
theorem bears27 : Bears Try.prog (rho.f 45) (SlBodyN.n45 rho) := ⟨"slices.Delete[[][]byte,[]byte]", by decide, by
  have : rho.f 45 = 27 := rfl
  rw [this, Try.func27]
  rfl⟩
theorem L27 : SlLaysE.n45 Try.prog rho :=
  ⟨mixed, bears27, Try.underlying0, Try.isAgg0, Try.sizeOf0, Try.zeroValue0, Try.underlying3, Try.isAgg3, Try.sizeOf3, Try.zeroValue3, Try.underlying4, Try.isAgg4, Try.sizeOf4, Try.zeroValue4, Try.underlying22, Try.isAgg22, Try.sizeOf22, Try.zeroValue22, Try.isAgg30, Try.sizeOf30⟩

abbrev SlV := Option Addr × Nat × Nat
def encS (x : SlV) : Value := .slice x.1 x.2.1 x.2.2

theorem heap_putRow {enc : SlV → Value} {w : World} {b : Nat} {cur : Array Value} {e : TypeId} (h : w.heap[b]? = some (.cells cur e (0, 0))) (d : Array SlV) :
    (putRow enc w b 0 d).heap[b]? = some (.cells (putCells enc 0 d cur) e (0, 0)) ∧ ∀ k, k ≠ b → (putRow enc w b 0 d).heap[k]? = w.heap[k]? := by
  unfold putRow mapBlock
  refine ⟨?_, fun k hk => ?_⟩
  · simp only [Array.getElem?_modify, if_true, h, Option.map_some]; rfl
  · simp only [Array.getElem?_modify, if_neg (Ne.symm hk)]

theorem slices_enc : ∀ {us : List Value}, (∀ u, u ∈ us → ∃ A n c, u = .slice A n c) → ∃ ds : List SlV, us = ds.map encS
  | [], _ => ⟨[], rfl⟩
  | u :: us, h => by
    obtain ⟨A, n, c, rfl⟩ := h u (by simp)
    obtain ⟨ds, rfl⟩ := slices_enc (us := us) fun u hu => h u (by simp [hu])
    exact ⟨(A, n, c) :: ds, rfl⟩

theorem info30 : (Try.prog.info? 30).map (fun i => i.size) = some 1 := by kernel_rfl

/-- What remains. -/
def erQ (ms : List (List Int)) (i : Nat) : List (List Int) := ms.eraseIdx i

theorem s27 (ms : List (List Int)) (i : Nat) (hi : i < ms.length) : Does Try.prog 27 [.one (.row 100000), .one (lI i), .one (lI ((i + 1 : Nat) : Int))] [(.vec 100000, .o (.nest 30 5 ms (some i)) [100001])] (.v (.one (.row 60))) [(.vec 60, .o (.nest 30 5 (ms.eraseIdx i) none) [])] := by
  intro G ρ w vals hrel hvals
  have q1 : AM.look [(Loc.vec 100000, Cont.o (.nest 30 5 ms (some i)) [100001])] (.vec 100000) = some (.o (.nest 30 5 ms (some i)) [100001]) := by simp [AM.look]
  obtain ⟨Y, ⟨us, hU⟩, hY⟩ := hrel.vec 100000 _ q1
  obtain ⟨ds, hds⟩ := slices_enc (us := us) fun u hu => by
    obtain ⟨j, hj, rfl⟩ := List.mem_iff_getElem.1 hu
    exact hU.slices (List.getElem?_eq_getElem hj)
  have hdl : ds.length = ms.length := by have := hU.len; rw [hds] at this; simpa using this
  cases hvals with
  | cons v0 hvals => cases hvals with
  | cons v1 hvals => cases hvals with
  | cons v2 hvals =>
  cases hvals
  rename_i x0 x1 x2
  obtain ⟨_, hx0, _⟩ := v0
  have hx1 : x1 = .int .i64 i := v1.2.lit_inv
  have hx2 : x2 = .int .i64 ((i + 1 : Nat) : Int) := v2.2.lit_inv
  subst hx0; subst hx1; subst hx2
  rcases hU.row.2 with ⟨_, h0⟩ | ⟨b, cap, cur, hv, _, hb, hnc, hcm, hcs, htk⟩
  · omega
  have hxs : ∀ j, j < ds.length → cur[j]? = some (encS ds[j]!) := by
    intro j hj
    have hju : j < us.length := by rw [hds]; simpa using hj
    have : (cur.toList.take (ms.length * 1))[j]? = some us[j] := by rw [htk, List.getElem?_eq_getElem hju]
    rw [List.getElem?_take_of_lt (by rw [Nat.mul_one, ← hdl]; exact hj)] at this
    rw [← Array.getElem?_toList, this]
    have e : us[j] = encS ds[j] := by simp [hds]
    rw [e, getElem!_pos ds j hj]
  have hH : Holds encS w b 0 ds.toArray := by
    intro j hj
    have hj' : j < ds.length := by simpa using hj
    refine ⟨?_, ?_⟩
    · simp only [World.cell?, hb, Nat.zero_add]
      rw [hxs j hj']
      simp [hj']
    · simp [World.frozen?, hb]
  obtain ⟨i0, hi0⟩ : ∃ i0, Try.prog.info? 30 = some i0 := by
    cases h : Try.prog.info? 30 with
    | none => have := info30; rw [h] at this; simp at this
    | some i0 => exact ⟨i0, rfl⟩
  have hz1 : i0.size = 1 := by have := info30; rw [hi0] at this; simpa using this
  have hcon := AnyE.slices_Delete L27 encS (fun _ => rfl) (none, 0, 0) (fun w => Try.zeroValue30 w) i0 hi0 hz1 b 0 cap i (i + 1) ds.toArray w hH (by simpa [hdl] using hnc) (by simp only [maxLen] at hcm; omega) (by omega) (by simp [hdl]; omega)
  change Calls Try.prog 27 _ _ _ at hcon
  have hvv : [ρ.v 100000, Value.int .i64 i, .int .i64 ((i + 1 : Nat) : Int)].toArray = #[.slice (some ⟨b, 0, none⟩) ds.toArray.size cap, .int .i64 i, .int .i64 ((i + 1 : Nat) : Int)] := by rw [hv]; simp [hdl]
  rw [hvv]
  refine hcon.mono ?_
  rintro e w' ⟨rfl, q, rfl⟩
  -- the row now
  let nd : List SlV := ds.take i ++ ds.drop (i + 1) ++ [(none, 0, 0)]
  have hnd : (ds.toArray.toList.take i ++ ds.toArray.toList.drop (i + 1) ++ List.replicate (i + 1 - i) (none, 0, 0)).toArray = nd.toArray := by
    have : i + 1 - i = 1 := by omega
    simp [nd, this]
  rw [hnd]
  have hndl : nd.length = ds.length := by
    simp only [nd, List.length_append, List.length_take, List.length_drop, List.length_cons, List.length_nil]
    omega
  have hsz : ds.toArray.size - (i + 1 - i) = ms.length - 1 := by rw [List.size_toArray, hdl]; omega
  rw [hsz]
  have hb' : (Sort.ahead w q).heap[b]? = some (.cells cur 30 (0, 0)) := hb
  obtain ⟨g1, g2⟩ := heap_putRow (enc := encS) hb' nd.toArray
  have hnew : ∀ j, j < nd.length → (putCells encS 0 nd.toArray cur)[j]? = some (encS nd[j]!) := by
    intro j hj
    have hjc : j < cur.size := by rw [hcs, Nat.mul_one]; omega
    simp only [putCells, Array.getElem?_mapIdx, Array.getElem?_eq_getElem hjc, Option.map_some, Nat.zero_le, true_and, Nat.zero_add, Nat.sub_zero]
    rw [if_pos (by simpa using hj)]
    simp [hj]
  have hgrow : ∀ k, k ≠ b → (putRow encS (Sort.ahead w q) b 0 nd.toArray).heap[k]? = w.heap[k]? := fun k hk => g2 k hk
  have hwsz : (putRow encS (Sort.ahead w q) b 0 nd.toArray).heap.size = w.heap.size := by unfold putRow mapBlock; simp [Sort.ahead]
  have hlen1 : (ms.eraseIdx i).length = ms.length - 1 := by rw [List.length_eraseIdx]; simp [hi]
  let us' := us.eraseIdx i
  have hus'l : us'.length = ms.length - 1 := by simp only [us', List.length_eraseIdx, hU.len]; simp [hi]
  have hus' : us' = (ds.eraseIdx i).map encS := by
    simp only [us', hds]
    apply List.ext_getElem?
    intro j
    simp only [List.getElem?_eraseIdx, List.getElem?_map]
    split <;> rfl
  have hndp : nd.take (ms.length - 1) = ds.eraseIdx i := by
    have e1 : ds.eraseIdx i = ds.take i ++ ds.drop (i + 1) := List.eraseIdx_eq_take_drop_succ ..
    rw [e1]
    exact List.take_left' (by simp; omega)
  have hrow : (putRow encS (Sort.ahead w q) b 0 nd.toArray).ownsRow 0 30 1 (.slice (some ⟨b, 0, none⟩) (ms.length - 1) cap) (ms.eraseIdx i).length us' := by
    rw [hlen1]
    refine ⟨by rw [hus'l]; omega, .inr ⟨b, cap, putCells encS 0 nd.toArray cur, rfl, Nat.zero_le _, g1, by omega, hcm, by simp [putCells, hcs], ?_⟩⟩
    apply List.ext_getElem?
    intro j
    by_cases hj : j < ms.length - 1
    · rw [List.getElem?_take_of_lt (by omega), Array.getElem?_toList, hnew j (by omega), hus', ← hndp, List.getElem?_map, List.getElem?_take_of_lt hj, getElem!_pos nd j (by omega), List.getElem?_eq_getElem (by omega)]; rfl
    · rw [List.getElem?_eq_none (by simp; omega), List.getElem?_eq_none (by omega)]
  have hblk : blk (ρ.v 100000) = some b := by rw [hv]; rfl
  -- where what remains stood
  have hold : ∀ (j : Nat) u, us'[j]? = some u → ∃ j', j' ≠ i ∧ us[j']? = some u ∧ (∀ m, (ms.eraseIdx i)[j]? = some m → ms[j']? = some m) ∧ j' = (if j < i then j else j + 1) := by
    intro j u hu
    simp only [us', List.getElem?_eraseIdx] at hu
    by_cases hji : j < i
    · rw [if_pos hji] at hu
      exact ⟨j, by omega, hu, fun m hm => by rwa [List.getElem?_eraseIdx, if_pos hji] at hm, by rw [if_pos hji]⟩
    · rw [if_neg hji] at hu
      exact ⟨j + 1, by omega, hu, fun m hm => by rwa [List.getElem?_eraseIdx, if_neg hji] at hm, by rw [if_neg hji]⟩
  have hnest : NestU (putRow encS (Sort.ahead w q) b 0 nd.toArray) 30 5 (ms.eraseIdx i) none (.slice (some ⟨b, 0, none⟩) (ms.length - 1) cap) Y [] us' := by
    refine ⟨hrow, fun k hk => hU.rowB k (by rw [hblk]; simpa [blk] using hk), ?_, ?_, by simp, ?_⟩
    · intro j m u hm hu _
      obtain ⟨j', h1, h2, h3, _⟩ := hold j u hu
      refine own_same (hU.own j' m u (h3 m hm) h2 (by simpa using Ne.symm h1)) fun k hk => hgrow k ?_
      rintro rfl
      exact (hU.ownB j' u k h2 (by simpa using Ne.symm h1) hk).2 hblk
    · intro j u k hu _ hk
      obtain ⟨j', h1, h2, _, _⟩ := hold j u hu
      obtain ⟨k1, k2⟩ := hU.ownB j' u k h2 (by simpa using Ne.symm h1) hk
      exact ⟨k1, fun e => k2 (by rw [hblk]; simpa [blk] using e)⟩
    · intro j1 j2 u1 u2 k h1 h2 _ _ k1 k2
      obtain ⟨j1', a1, a2, _, a4⟩ := hold j1 u1 h1
      obtain ⟨j2', c1, c2, _, c4⟩ := hold j2 u2 h2
      have := hU.apart j1' j2' u1 u2 k a2 c2 (by simpa using Ne.symm a1) (by simpa using Ne.symm c1) k1 k2
      rw [a4, c4] at this
      split at this <;> split at this <;> omega
  have hfr : ¬ Mentions (AM.look [(Loc.vec 100000, Cont.o (.nest 30 5 ms (some i)) [100001])]) 60 := by
    rintro (h | ⟨l, c, hl, hk⟩)
    · simp [keyB] at h
    · simp only [AM.look] at hl
      split at hl
      · rename_i e; subst e; injection hl with hl; subst hl
        simp [Loc.key, Cont.keys] at hk
      · simp at hl
  have hne : ∀ k, Mentions (AM.look [(Loc.vec 100000, Cont.o (.nest 30 5 ms (some i)) [100001])]) k → k ≠ 60 := fun k hk e => hfr (e ▸ hk)
  have how : ∀ k, Y k → Owns ρ (.vec 100000) 100000 k := fun k hk => (hY k hk).imp id fun h => ⟨rfl, h⟩
  refine ⟨_, rfl, G, setX ρ 60 (.slice (some ⟨b, 0, none⟩) (ms.length - 1) cap) Y, ⟨rfl, (setX_same _ _ _ _).symm, _, _, _, setX_same _ _ _ _⟩, ?_⟩
  have ho60 : ∀ k, Owns (setX ρ 60 (.slice (some ⟨b, 0, none⟩) (ms.length - 1) cap) Y) (.vec 60) 60 k → Y k := by
    rintro k (h | ⟨_, h⟩)
    · rw [setX_same] at h; exact hU.rowB k (by rw [hblk]; simpa [blk] using h)
    · rw [setX_X_same] at h; exact h
  refine hrel.trade (w' := putRow encS (Sort.ahead w q) b 0 nd.toArray) rfl rfl rfl (Nat.le_of_eq hwsz.symm) (D := [100000]) (N := [60]) ?_ ?_ ?_ (fun k hk => setX_ne _ _ _ (hne k hk)) (fun k hk _ => setX_X_ne _ _ _ (hne k hk)) ?_ ?_ ?_
  · intro k hk; simp at hk; subst hk; exact ⟨_, q1⟩
  · intro k _ hno
    refine hgrow k ?_
    rintro rfl
    exact hno 100000 (by simp) (.inl hblk)
  · intro l c hl
    simp only [AM.look] at hl
    split at hl
    · rename_i e; exact .inr ⟨60, by simp, e⟩
    · simp at hl
  · intro k c hk hc
    simp at hk; subst hk
    simp only [AM.look, if_true, Option.some.injEq] at hc
    subst hc
    show Tag.rep (.nest 30 5 (ms.eraseIdx i) none) _ (setX ρ 60 _ Y 60) ((setX ρ 60 _ Y).X 60) []
    rw [setX_same, setX_X_same]
    exact ⟨Y, ⟨us', hnest⟩, fun k hk => .inr hk⟩
  · intro k c bb hk hc hb2
    simp at hk; subst hk
    have := ho60 bb hb2
    exact ⟨by rw [hwsz]; exact (hrel.live _ _ 100000 bb q1 rfl (how bb this)).2.1, .inl ⟨100000, by simp, how bb this⟩⟩
  · intro k k' bb hk hk' _ _
    simp at hk hk'; rw [hk, hk']
end Go.Proofs.Ytidnlnnobegniaa
