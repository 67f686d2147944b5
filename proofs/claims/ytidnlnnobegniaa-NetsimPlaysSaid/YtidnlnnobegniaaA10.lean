import Derived.Test.YtidnlnnobegniaaA9
set_option linter.unusedVariables false
set_option linter.unusedSimpArgs false
namespace Go.AM
open Go.RowKit

variable {C : Ctx} {g : State} {o : Oper}

/-! #### a part of a slice that nobody writes -/
theorem run_slice_plain {P : Program} {t e : TypeId} {i j : TInfo} (ht : tinfo P t = some i) (hk : i.k = .slice e) (hj : tinfo P e = some j) (A : Option Addr) (n c lo hi : Nat) (kl kh : IntKind) (lov hiv : Option Value)
    (hlo : (lov = none ∧ lo = 0) ∨ lov = some (.int kl lo)) (hhi : (hiv = none ∧ hi = n) ∨ hiv = some (.int kh hi)) (h1 : lo ≤ hi) (h2 : hi ≤ n) (h3 : n ≤ c) (w : World) :
    (Instr.sliceAt t (.slice A n c) lov hiv none).run P w = .ok (.slice (if c = lo then A else A.map (·.add (lo * j.size))) (hi - lo) (c - lo)) w := by
  obtain ⟨_, _, _, hs⟩ := tinfo_spec hj
  have hu := und_slice ht hk
  have n1 : ¬ c < hi := by omega
  have n2 : ¬ hi < lo := by omega
  have n3 : hi ≤ c := by omega
  have hb : (Instr.sliceBounds true n c lov hiv none).run P w = .ok (lo, hi, c) w := by
    rcases hlo with ⟨rfl, rfl⟩ | rfl <;> rcases hhi with ⟨rfl, rfl⟩ | rfl <;> simp [Instr.sliceBounds, Instr.sliceBound, asIntOf, n1, n2, n3, h1]
  simp [Instr.sliceAt, Instr.slice, run_underlying hu, hb, hs.run_size]

theorem VRep.part {G : Heap} {A : Option Addr} {n c sz lo hi : Nat} {rows : List (List T)} (h : VRep G (.slice A n c) (.sl sz rows)) (h1 : lo ≤ hi) (h2 : hi ≤ rows.length) :
    VRep G (.slice (if c = lo then A else A.map (·.add (lo * sz))) (hi - lo) (c - lo)) (.sl sz ((rows.take hi).drop lo)) := by
  cases h with
  | sl _ _ _ _ _ u hn hcap hsz hA hcell hrec =>
    have hget : ∀ (i : Nat) cells, ((rows.take hi).drop lo)[i]? = some cells → rows[lo + i]? = some cells ∧ lo + i < hi := by
      intro i cells hi'
      rw [List.getElem?_drop, List.getElem?_take] at hi'
      split at hi'
      · exact ⟨hi', by assumption⟩
      · simp at hi'
    refine .sl _ _ _ _ _ (fun i k => u (lo + i) k) (by simp; omega) (by omega) (fun i cells hi' => hsz _ cells (hget i cells hi').1) ?_ ?_ (fun i cells k t hi' hk => hrec _ cells k t (hget i cells hi').1 hk)
    · rcases hA with hA | hA
      · refine .inl ?_
        split
        · exact hA
        · obtain ⟨ad, rfl⟩ := Option.isSome_iff_exists.1 hA; rfl
      · refine .inr (by omega)
    · intro ad he i k hi' hk
      split at he
      · omega
      · cases A with
        | none => simp at he
        | some ad0 =>
          simp at he
          subst he
          have := hcell ad0 rfl (lo + i) k (by omega) hk
          rw [add_add] at this ⊢
          rw [add_add]
          rwa [Nat.add_mul, Nat.add_assoc] at this

theorem ok_slice_tree {t e : TypeId} {i j : TInfo} {x : Operand} {lop hip : Option Operand} {lo hi : Nat} {rows : List (List T)} {rl rh : List (Loc × Cont)} {kl kh : IntKind} (ho : o.op = .slice t x lop hip none) (hd : dstOK C o.dst) (ht : tinfo C.P t = some i) (hk : i.k = .slice e) (hj : tinfo C.P e = some j)
    (hx : ev g x = some (.v (.one (.t (.sl j.size rows)))))
    (hlo : (lop = none ∧ lo = 0 ∧ rl = []) ∨ ∃ z yz, lop = some z ∧ ev g z = some yz ∧ litV yz = some (.int kl lo) ∧ rl = evr g z)
    (hhi : (hip = none ∧ hi = rows.length ∧ rh = []) ∨ ∃ z yz, hip = some z ∧ ev g z = some yz ∧ litV yz = some (.int kh hi) ∧ rh = evr g z) (h1 : lo ≤ hi) (h2 : hi ≤ rows.length) :
    OpOK C o ⟨evr g x ++ rl ++ rh, wrD o.dst (.v (.one (.t (.sl j.size ((rows.take hi).drop lo))))), []⟩ :=
  opok_pure hd fun G ρ s a w hrel hr => by
    obtain ⟨r12, r3⟩ := Reads.app.1 hr
    obtain ⟨r1, r2⟩ := Reads.app.1 r12
    obtain ⟨_, hv⟩ := ev_rep hx r1 hrel
    obtain ⟨A, n, c, e1, hn, hc⟩ : ∃ A n c, a.eval x = .slice A n c ∧ rows.length = n ∧ n ≤ c := by
      generalize a.eval x = v at hv
      cases hv with
      | sl A n c sz rows u hn hcap hsz hA hcell hrec => exact ⟨A, n, c, rfl, hn, hcap⟩
    rw [e1] at hv
    have hlo' : (lop.map a.eval = none ∧ lo = 0) ∨ lop.map a.eval = some (.int kl lo) := by
      rcases hlo with ⟨rfl, h, _⟩ | ⟨z, yz, rfl, hz, hvz, rfl⟩
      · exact .inl ⟨rfl, h⟩
      · exact .inr (by simp [(litV_rep hvz (ev_rep hz r2 hrel)).1])
    have hhi' : (hip.map a.eval = none ∧ hi = n) ∨ hip.map a.eval = some (.int kh hi) := by
      rcases hhi with ⟨rfl, h, _⟩ | ⟨z, yz, rfl, hz, hvz, rfl⟩
      · exact .inl ⟨rfl, by omega⟩
      · exact .inr (by simp [(litV_rep hvz (ev_rep hz r3 hrel)).1])
    have hrun := run_slice_plain (P := C.P) ht hk hj A n c lo hi kl kh _ _ hlo' hhi' h1 (by omega) hc w
    exact ⟨_, by simp [execOp, ho, e1, hrun], ⟨rfl, hv.part h1 h2⟩⟩

/-! #### bytes as a text -/
def numOf : List T → Option Int
  | [.lit (.int .u8 n)] => some n
  | _ => none

def byteRows (xs : List Int) : List (List T) := xs.map fun n => [.lit (.int .u8 n)]

theorem ok_conv_nil {src dst e : TypeId} {i j k : TInfo} {x : Operand} (ho : o.op = .convert src dst x) (hd : dstOK C o.dst) (hi : tinfo C.P src = some i) (hik : i.k = .slice e) (hj : tinfo C.P dst = some j) (hjk : j.k = .string) (he : tinfo C.P e = some k) (hek : k.k = .int .u8)
    (hx : ev g x = some (.v (.one (.t (.lit (.slice none 0 0)))))) : OpOK C o ⟨evr g x, wrD o.dst (sv (.string (strOfNums []))), []⟩ := by
  have h : OpOK C o ⟨evr g x, wrD o.dst (sv (.string (strOfNums []))), []⟩ := opok_pure hd fun G ρ s a w hrel hr => by
    have hv := (ev_rep hx hr hrel).2.lit_inv
    have hu := und_slice hi hik
    have hue : C.P.underlying e = some (.int .u8) := by
      obtain ⟨_, d, _, h1⟩ := tinfo_spec he
      have h2 := h1.k
      rw [hek] at h2
      have h3 := h1.und
      cases d <;> simp [tkOf] at h2
      rw [h2] at h3; exact h3
    have hus : C.P.underlying dst = some .string := by
      obtain ⟨_, d, _, h1⟩ := tinfo_spec hj
      have h2 := h1.k
      rw [hjk] at h2
      have h3 := h1.und
      cases d <;> simp [tkOf] at h2
      exact h3
    refine ⟨.string (strOfNums []), ?_, sv_rep rfl⟩
    have hrun : (convert src dst (.slice none 0 0)).run C.P w = .ok (.string (strOfNums [])) w := by
      rw [run_convert_bytes_nil w src e hu hue 0 0 dst hus]
      rfl
    simp [execOp, ho, hv, hrun]
  exact h

theorem ok_conv_bytes {src dst e : TypeId} {i j k : TInfo} {x : Operand} {xs : List Int} (ho : o.op = .convert src dst x) (hd : dstOK C o.dst) (hi : tinfo C.P src = some i) (hik : i.k = .slice e) (hj : tinfo C.P dst = some j) (hjk : j.k = .string) (he : tinfo C.P e = some k) (hek : k.k = .int .u8)
    (hx : ev g x = some (.v (.one (.t (.sl 1 (byteRows xs)))))) : OpOK C o ⟨evr g x, wrD o.dst (sv (.string (strOfNums xs))), []⟩ :=
  opok_pure hd fun G ρ s a w hrel hr => by
    obtain ⟨_, hv⟩ := ev_rep hx hr hrel
    have hu := und_slice hi hik
    have hue : C.P.underlying e = some (.int .u8) := by
      obtain ⟨_, d, _, h1⟩ := tinfo_spec he
      have h2 := h1.k
      rw [hek] at h2
      have h3 := h1.und
      cases d <;> simp [tkOf] at h2
      rw [h2] at h3; exact h3
    have hus : C.P.underlying dst = some .string := by
      obtain ⟨_, d, _, h1⟩ := tinfo_spec hj
      have h2 := h1.k
      rw [hjk] at h2
      have h3 := h1.und
      cases d <;> simp [tkOf] at h2
      exact h3
    refine ⟨.string (strOfNums xs), ?_, sv_rep rfl⟩
    generalize hev : a.eval x = v at hv
    cases hv with
    | sl A n c sz rows u hn hcap hsz hA hcell hrec =>
      have hrun : (convert src dst (.slice A n c)).run C.P w = .ok (.string (strOfNums xs)) w := by
        have hnl : xs.length = n := by simpa [byteRows] using hn
        cases A with
        | none =>
          have hc0 : c = 0 := hA.resolve_left (by simp)
          have hn0 : n = 0 := by omega
          have : xs = [] := List.eq_nil_of_length_eq_zero (by omega)
          subst this
          rw [run_convert_bytes_nil w src e hu hue n c dst hus]
          rfl
        | some ad =>
          have hl : (loadCells ad n).run C.P w = .ok (xs.map (Value.int .u8)).toArray w := by
            have := run_loadCells_list (P := C.P) w ad (xs.map (Value.int .u8)) (fun j v hj => by
              have hjl : j < xs.length := by have := (List.getElem?_eq_some_iff.1 hj).1; simpa using this
              have h1 := hcell ad rfl j 0 (by omega) (by omega)
              have h2 := hrec j _ 0 _ (by simp [byteRows, List.getElem?_eq_getElem hjl]; rfl) rfl
              have h3 := h2.lit_inv
              rw [h3, add_add] at h1
              have h4 := gcell_cell hrel.gle h1.1
              simp [List.getElem?_eq_getElem hjl] at hj
              subst hj
              simpa using h4)
            simpa [hnl] using this
          rw [run_convert_bytes_string w src dst e _ n c hu hue hus, run_bytesToString w _ n c xs hl, foldl_push_bytes]
          simp [strOfNums, ByteArray.empty, ByteArray.emptyWithCapacity]
          rfl
      simp [execOp, ho, hev, hrun]

/-! #### structs of numbers held against each other -/
def eqAll : List (Value × Value) → Option Bool
  | [] => some true
  | (.int k a, .int k' b) :: r => if k = k' then (eqAll r).map fun z => (a == b) && z else none
  | (.bool a, .bool b) :: r => (eqAll r).map fun z => (a == b) && z
  | _ => none

/-- The fields, one by one: each of one cell, at its place. -/
def fieldsPlain : Nat → List (Nat × TypeId) → Bool
  | _, [] => true
  | n, (off, _) :: r => off == n && fieldsPlain (n + 1) r

theorem run_eqFields {P : Program} (d : Nat) (w : World) : ∀ (fs : List Field) (n : Nat) (xs ys : Array Value) (b : Bool), (∀ f, f ∈ fs → f.name ≠ "_") → fieldsPlain n (fs.map fun f => (f.offset, f.type)) = true →
    (∀ f, f ∈ fs → ∃ j, tinfo P f.type = some j ∧ ((∃ k, j.k = .int k) ∨ j.k = .bool) ∧ j.agg = false) → xs.size = n + fs.length → ys.size = n + fs.length → eqAll ((xs.toList.drop n).zip (ys.toList.drop n)) = some b →
    (∀ (i : Nat) f v, fs[i]? = some f → (xs[n + i]? = some v ∨ ys[n + i]? = some v) → ∀ j, tinfo P f.type = some j → (∃ k a, j.k = .int k ∧ v = .int k a) ∨ (∃ a, j.k = .bool ∧ v = .bool a)) →
    (Op.eqFields (d + 1) xs ys fs).run P w = .ok b w
  | [], n, xs, ys, b, _, _, _, hx, hy, h, _ => by
    have : xs.toList.drop n = [] := by rw [List.drop_eq_nil_iff]; simp at hx ⊢; omega
    rw [this] at h
    simp [eqAll] at h
    subst h
    rfl
  | f :: fs, n, xs, ys, b, hn, hp, ht, hx, hy, h, hk => by
    simp only [List.map_cons, fieldsPlain, Bool.and_eq_true, beq_iff_eq] at hp
    simp only [List.length_cons] at hx hy
    have hxn : n < xs.size := by omega
    have hyn : n < ys.size := by omega
    have ex : xs.toList.drop n = xs[n] :: xs.toList.drop (n + 1) := by rw [List.drop_eq_getElem_cons (by simpa using hxn)]; simp
    have ey : ys.toList.drop n = ys[n] :: ys.toList.drop (n + 1) := by rw [List.drop_eq_getElem_cons (by simpa using hyn)]; simp
    rw [ex, ey, List.zip_cons_cons] at h
    obtain ⟨j, hj, hjk, hja⟩ := ht f (by simp)
    obtain ⟨_, dd, _, hs⟩ := tinfo_spec hj
    have hpx : (part f.type xs f.offset).run P w = .ok xs[n] w := by
      simp only [part, Sem.run_bind, hs.run_agg, hja, Result.andThen_ok, Bool.false_eq_true, if_false, hp.1]
      simp [hxn]
    have hpy : (part f.type ys f.offset).run P w = .ok ys[n] w := by
      simp only [part, Sem.run_bind, hs.run_agg, hja, Result.andThen_ok, Bool.false_eq_true, if_false, hp.1]
      simp [hyn]
    have ih : ∀ b', eqAll ((xs.toList.drop (n + 1)).zip (ys.toList.drop (n + 1))) = some b' → (Op.eqFields (d + 1) xs ys fs).run P w = .ok b' w := fun b' hb' =>
      run_eqFields d w fs (n + 1) xs ys b' (fun f hf => hn f (by simp [hf])) hp.2 (fun f hf => ht f (by simp [hf])) (by omega) (by omega) hb' fun i f' v hf hv j hj => hk (i + 1) f' v (by simpa using hf) (by rwa [show n + (i + 1) = n + 1 + i by omega]) j hj
    have hkx := hk 0 f xs[n] rfl (.inl (by simp [hxn])) j hj
    have hky := hk 0 f ys[n] rfl (.inr (by simp [hyn])) j hj
    have hstep : ∀ c, (Op.equalIn (d + 1) f.type xs[n] ys[n]).run P w = .ok c w → ∀ b', eqAll ((xs.toList.drop (n + 1)).zip (ys.toList.drop (n + 1))) = some b' → (Op.eqFields (d + 1) xs ys (f :: fs)).run P w = .ok (c && b') w := by
      intro c hc b' hb'
      simp only [Op.eqFields]
      rw [if_pos (hn f (by simp))]
      simp only [Sem.run_bind, hpx, hpy, hc, Result.andThen_ok, Sem.run_ite]
      cases c with
      | true => simpa using ih b' hb'
      | false => simp
    rcases hkx with ⟨k, x, hkk, e1⟩ | ⟨x, hkk, e1⟩
    · rcases hky with ⟨k2, y, hkk2, e2⟩ | ⟨y, hkk2, e2⟩
      · rw [hkk] at hkk2; injection hkk2 with hkk2; subst hkk2
        rw [e1, e2] at h
        simp only [eqAll, if_true, Option.map_eq_some_iff] at h
        obtain ⟨b', hb', rfl⟩ := h
        refine hstep _ ?_ b' hb'
        rw [e1, e2]
        have hd := hs.k
        have hu := hs.und
        rw [hkk] at hd
        cases dd <;> simp [tkOf] at hd
        exact run_equalIn_int (P := P) w d f.type _ _ _ _ hu
      · rw [hkk] at hkk2; simp at hkk2
    · rcases hky with ⟨k2, y, hkk2, e2⟩ | ⟨y, hkk2, e2⟩
      · rw [hkk] at hkk2; simp at hkk2
      · rw [e1, e2] at h
        simp only [eqAll, Option.map_eq_some_iff] at h
        obtain ⟨b', hb', rfl⟩ := h
        refine hstep _ ?_ b' hb'
        rw [e1, e2]
        have hd := hs.k
        have hu := hs.und
        rw [hkk] at hd
        cases dd <;> simp [tkOf] at hd
        exact run_equalIn_bool (P := P) w d f.type _ _ hu

end Go.AM
