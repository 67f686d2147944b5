import Derived.Test.YtidnlnnobegniaaM2
set_option linter.unusedVariables false
set_option linter.unusedSimpArgs false
namespace Go.AM
open Go.RowKit
variable {C : Ctx} {g : State} {o : Oper}

/-! ### M3. Operations on maps -/
/-- What a key's thing is turned to. -/
theorem RelG.retag {G : Heap} {ρ : Places} {s : State} {a : Act} {w : World} (h : RelG C G ρ s a w) {κ : Nat} {c c' : Cont} (hv : s (.vec κ) = some c) {w' : World} (hos : w'.os = w.os) (htape : w'.tape = w.tape) (hout : w'.output = w.output) (hsize : w'.heap.size = w.heap.size)
    (hheap : ∀ b, ¬ Owns ρ (.vec κ) κ b → w'.heap[b]? = w.heap[b]?) {ρ' : Places} (hρ : ∀ k, Mentions s k → ρ' k = ρ k) (hX : ∀ k, Mentions s k → ρ'.X k = ρ.X k) (hc : ContRep G w' ρ' κ c') : RelG C G ρ' (upd s (.vec κ) (some c')) a w' := by
  have hm : Mentions s κ := .inr ⟨_, c, hv, .inl rfl⟩
  have how : ∀ b, Owns ρ' (.vec κ) κ b → Owns ρ (.vec κ) κ b := by
    rintro b (ho | ⟨e, ho⟩)
    · rw [hρ κ hm] at ho; exact .inl ho
    · rw [hX κ hm] at ho; exact .inr ⟨e, ho⟩
  refine h.trade hos htape hout (Nat.le_of_eq hsize.symm) (D := [κ]) (N := [κ]) ?_ ?_ ?_ hρ (fun k hk _ => hX k hk) ?_ ?_ ?_
  · intro k hk; simp at hk; subst hk; exact ⟨c, hv⟩
  · intro b _ hb; exact hheap b (hb κ (by simp))
  · intro l x hl
    by_cases e : l = .vec κ
    · exact .inr ⟨κ, by simp, e⟩
    · rw [upd_ne _ _ e] at hl
      exact .inl ⟨hl, fun k hk => by simp at hk; subst hk; exact e⟩
  · intro k x hk hx
    simp at hk; subst hk
    rw [upd_same] at hx; injection hx with hx; subst hx; exact hc
  · intro k x b hk hx hb
    simp at hk; subst hk
    have := how b hb
    exact ⟨by rw [hsize]; exact (h.live _ _ k b hv rfl this).2.1, .inl ⟨k, by simp, this⟩⟩
  · intro k k' b hk hk' _ _
    simp at hk hk'; rw [hk, hk']

theorem pair_eval {G : Heap} {ρ : Places} {v : Value} {x y : Int} (h : SVRep G ρ v (.v (.agg [.t (.lit (.int .i64 x)), .t (.lit (.int .i64 y))]))) : v = pairV x y := by
  obtain ⟨vs, rfl, h⟩ := h
  cases h with
  | cons h1 t => cases t with
    | cons h2 t2 =>
      cases t2
      rw [h1.2.lit_inv, h2.2.lit_inv]; rfl

def pairC (x y : Int) : SV := .v (.agg [.t (.lit (.int .i64 x)), .t (.lit (.int .i64 y))])
theorem obj_eval {G : Heap} {ρ : Places} {v : Value} {κ : Nat} (h : SVRep G ρ v (.v (.one (.obj κ)))) : v = ρ κ := h.2

theorem und_map {P : Program} {t k e : TypeId} {i : TInfo} (ht : tinfo P t = some i) (hk : i.k = .map k e) : P.underlying t = some (.map k e) := by
  obtain ⟨_, d, _, hs⟩ := tinfo_spec ht
  have h1 := hs.k
  have h2 := hs.und
  rw [hk] at h1
  cases d <;> simp [tkOf] at h1
  obtain ⟨rfl, rfl⟩ := h1
  exact h2

/-- A type's zero value, if it is one cell. -/
def zeroOf (P : Program) (t : TypeId) : Option Value := match P.info? t with
  | some i => i.zero
  | none => none
theorem run_zeroOf {P : Program} {t : TypeId} {z : Value} (h : zeroOf P t = some z) (w : World) : (zeroValue t).run P w = .ok z w := by
  unfold zeroOf at h
  split at h
  · rename_i i hi
    simp [zeroValue, typeInfo, hi, h]
  · simp at h

/-! #### made -/
theorem qs_made {w : World} {e eb : TypeId} : Tag.rep (.qs e eb (fun _ _ => []) .none) { w with heap := w.heap.push (.map #[] 0) } (.map (some w.heap.size)) (fun b => b = w.heap.size) [] := by
  refine ⟨w.heap.size, fun _ _ => none, fun _ _ _ => False, rfl, rfl, ⟨#[], 0, heap_push _ _, MapE.none⟩, fun _ _ _ h => h.elim, fun _ _ _ _ _ h => h.elim, fun a b => ?_⟩
  show NestAt _ _ _ [] none (.slice none 0 0) _ []
  exact ⟨[], World.ownsRow_nil _ 0 e 1, by simp [blk], by simp, by simp, by simp, by simp⟩
theorem cuts_made {w : World} : Tag.rep (.cuts fun _ _ => 0) { w with heap := w.heap.push (.map #[] 0) } (.map (some w.heap.size)) (fun b => b = w.heap.size) [] :=
  ⟨w.heap.size, fun _ _ => none, rfl, rfl, ⟨#[], 0, heap_push _ _, MapE.none⟩, fun _ _ => .inl ⟨rfl, rfl⟩⟩

def setX (ρ : Places) (κ : Nat) (v : Value) (Y : Nat → Prop) : Places := ⟨fun k => if k = κ then v else ρ k, fun k => if k = κ then Y else ρ.X k⟩
theorem setX_same (ρ : Places) (κ : Nat) (v : Value) (Y : Nat → Prop) : setX ρ κ v Y κ = v := by simp [setX]
theorem setX_ne (ρ : Places) {κ k : Nat} (v : Value) (Y : Nat → Prop) (h : k ≠ κ) : setX ρ κ v Y k = ρ k := by simp [setX, h]
theorem setX_X_same (ρ : Places) (κ : Nat) (v : Value) (Y : Nat → Prop) : (setX ρ κ v Y).X κ = Y := by simp [setX]
theorem setX_X_ne (ρ : Places) {κ k : Nat} (v : Value) (Y : Nat → Prop) (h : k ≠ κ) : (setX ρ κ v Y).X k = ρ.X k := by simp [setX, h]

/-- A new key's thing, all of it new. -/
theorem RelG.newTag {G : Heap} {ρ : Places} {s : State} {a : Act} {w : World} (h : RelG C G ρ s a w) {κ : Nat} (hκ : ¬ Mentions s κ) {w' : World} (hg : Grew w w') {v : Value} {Y : Nat → Prop} {t : Tag} {ks : List Nat} (hk : ∀ k, k ∈ ks → k ≠ κ)
    (hr : t.rep w' v Y (ks.map ρ.v)) (hb : ∀ b, (blk v = some b ∨ Y b) → w.heap.size ≤ b ∧ b < w'.heap.size) : RelG C G (setX ρ κ v Y) (upd s (.vec κ) (some (.o t ks))) a w' := by
  have hne : ∀ k, Mentions s k → k ≠ κ := fun k hk e => hκ (e ▸ hk)
  refine h.trade hg.os hg.tape hg.output hg.size (D := []) (N := [κ]) (by simp) ?_ ?_ (fun k hk => setX_ne _ _ _ (hne k hk)) (fun k hk _ => setX_X_ne _ _ _ (hne k hk)) ?_ ?_ ?_
  · intro b hb _; exact hg.block b hb
  · intro l x hl
    by_cases e : l = .vec κ
    · exact .inr ⟨κ, by simp, e⟩
    · rw [upd_ne _ _ e] at hl
      exact .inl ⟨hl, by simp⟩
  · intro k x hk' hx
    simp at hk'; subst hk'
    rw [upd_same] at hx; injection hx with hx; subst hx
    show Tag.rep t _ _ _ _
    rw [setX_same, setX_X_same]
    have : ks.map (setX ρ k v Y).v = ks.map ρ.v := List.map_congr_left fun k' hk' => setX_ne _ _ _ (hk k' hk')
    rw [this]; exact hr
  · intro k x b hk' hx ho
    simp at hk'; subst hk'
    have : blk v = some b ∨ Y b := by
      rcases ho with ho | ⟨_, ho⟩
      · rw [setX_same] at ho; exact .inl ho
      · rw [setX_X_same] at ho; exact .inr ho
    obtain ⟨h1, h2⟩ := hb b this
    exact ⟨h2, .inr h1⟩
  · intro k k' b hk hk' _ _
    simp at hk hk'; rw [hk, hk']

theorem ok_makeTag {t : TypeId} {κ : Nat} {g : Tag} (ho : o.op = .makeMap t none) (hd : dstOK C o.dst) (hg : ∀ w : World, Tag.rep g { w with heap := w.heap.push (.map #[] 0) } (.map (some w.heap.size)) (fun b => b = w.heap.size) []) :
    OpOK C o ⟨[], [(.vec κ, some (.o g []))] ++ wrD o.dst (.v (.one (.obj κ))), [κ]⟩ :=
  opok_val hd fun G ρ s a w hrel hr hf => by
    refine ⟨.map (some w.heap.size), { w with heap := w.heap.push (.map #[] 0) }, G, setX ρ κ (.map (some w.heap.size)) fun b => b = w.heap.size, ?_, ?_, ⟨rfl, (setX_same _ _ _ _).symm⟩⟩
    · simp only [execOp, ho, Option.map_none, Sem.run_bind, run_makeMap', Result.andThen_ok, Sem.run_pure]
    · exact hrel.newTag (hf κ (by simp)) (Grew.push w _) (by simp) (hg w) fun b hb => by
        rcases hb with hb | rfl
        · simp [blk] at hb
        · simp

/-! #### looked up -/
theorem ok_lookS {t k e : TypeId} {i : TInfo} {m z : Operand} {κ : Nat} {S : SF} {ks : List Nat} {x y : Int} (ho : o.op = .lookup t m z false) (hd : dstOK C o.dst) (ht : tinfo C.P t = some i) (hk : i.k = .map k e) (hp : pairT C.P k = true) (hz : zeroOf C.P e = some (.int .i64 0))
    (hm : ev g m = some (.v (.one (.obj κ)))) (hx : ev g z = some (pairC x y)) : OpOK C o ⟨evr g m ++ evr g z ++ [(.vec κ, .o (.cuts S) ks)], wrD o.dst (sv (.int .i64 (S x y))), []⟩ :=
  opok_pure hd fun G ρ s a w hrel hr => by
    obtain ⟨r12, r3⟩ := Reads.app.1 hr
    obtain ⟨r1, r2⟩ := Reads.app.1 r12
    have r3 := (Reads.cons.1 r3).1
    have e1 := obj_eval (ev_rep hm r1 hrel)
    have e2 := pair_eval (ev_rep hx r2 hrel)
    obtain ⟨r, M, f1, f2, f3, f4⟩ := hrel.vec κ _ r3
    have hrun := run_lookup (P := C.P) (und_map ht hk) (pairT_spec hp) (run_zeroOf hz w) f3 (a := x) (b := y)
    refine ⟨.int .i64 (S x y), ?_, sv_rep rfl⟩
    simp only [execOp, ho, e1, e2, f1, Sem.run_bind, hrun, Result.andThen_ok, Sem.run_pure]
    rcases f4 x y with ⟨h1, h2⟩ | ⟨n, h1⟩
    · rw [h1, h2]
    · rw [h1]

theorem val_run {M : MapM} {x y : Int} : (match M x y with | some q => q.1 | none => Value.slice none 0 0) = valOf M x y := rfl

theorem run_lookQ {P : Program} {w : World} {t k e : TypeId} {i : TInfo} {r : Nat} {M : MapM} {x y : Int} (ht : tinfo P t = some i) (hk : i.k = .map k e) (hp : pairT P k = true) (hz : zeroOf P e = some (.slice none 0 0)) (hM : MapIs w r M) :
    (Instr.lookup t (.map (some r)) (pairV x y) false).run P w = .ok (valOf M x y) w := run_lookup (P := P) (und_map ht hk) (pairT_spec hp) (run_zeroOf hz w) hM

def isOwn : HK → Bool
  | .own => true
  | .msg _ => true
  | _ => false
theorem SlotAt.slice {w : World} {e eb : TypeId} {ms : List (List Int)} {M : MapM} {a b : Int} {Y : Nat → Prop} {vs : List Value} {k : HK} (h : SlotAt w e eb ms M a b Y vs k) : ∃ A n c, valOf M a b = .slice A n c := by
  cases k with
  | own => obtain ⟨A, c, h⟩ := NestAt.slice h; exact ⟨A, _, c, h⟩
  | msg i => obtain ⟨A, c, h⟩ := NestAt.slice h; exact ⟨A, _, c, h⟩
  | out => exact h.2
  | stamped => obtain ⟨_, _, _, h⟩ := h; exact h

theorem ok_lookQ_len {t k e : TypeId} {i : TInfo} {m z : Operand} {κ : Nat} {e' eb : TypeId} {Q : QF} {hh : QHole} {ks : List Nat} {x y : Int} (ho : o.op = .lookup t m z false) (hd : dstOK C o.dst) (ht : tinfo C.P t = some i) (hk : i.k = .map k e) (hp : pairT C.P k = true) (hz : zeroOf C.P e = some (.slice none 0 0))
    (hm : ev g m = some (.v (.one (.obj κ)))) (hx : ev g z = some (pairC x y)) (hown : isOwn (hh.at x y) = true) : OpOK C o ⟨evr g m ++ evr g z ++ [(.vec κ, .o (.qs e' eb Q hh) ks)], wrD o.dst (.v (.one (.slen (Q x y).length))), []⟩ :=
  opok_pure hd fun G ρ s a w hrel hr => by
    obtain ⟨r12, r3⟩ := Reads.app.1 hr
    obtain ⟨r1, r2⟩ := Reads.app.1 r12
    have r3 := (Reads.cons.1 r3).1
    have e1 := obj_eval (ev_rep hm r1 hrel)
    have e2 := pair_eval (ev_rep hx r2 hrel)
    obtain ⟨r, M, Y, f⟩ := hrel.vec κ _ r3
    have hrun := run_lookQ (P := C.P) (x := x) (y := y) ht hk hp hz f.map
    have hsl : ∃ A c, valOf M x y = .slice A (Q x y).length c := by
      have hs := f.slot x y
      cases h : hh.at x y <;> rw [h] at hs hown
      · exact NestAt.slice hs
      · simp [isOwn] at hown
      · simp [isOwn] at hown
      · exact NestAt.slice hs
    obtain ⟨A, c, hA⟩ := hsl
    refine ⟨valOf M x y, ?_, ⟨by rw [hA]; rfl, A, c, hA⟩⟩
    simp only [execOp, ho, e1, e2, f.isM, Sem.run_bind, hrun, Result.andThen_ok, Sem.run_pure]

theorem ok_lookQ_out {t k e : TypeId} {i : TInfo} {m z : Operand} {κ κr : Nat} {e' eb : TypeId} {Q : QF} {x y : Int} (ho : o.op = .lookup t m z false) (hd : dstOK C o.dst) (ht : tinfo C.P t = some i) (hk : i.k = .map k e) (hp : pairT C.P k = true) (hz : zeroOf C.P e = some (.slice none 0 0))
    (hm : ev g m = some (.v (.one (.obj κ)))) (hx : ev g z = some (pairC x y)) : OpOK C o ⟨evr g m ++ evr g z ++ [(.vec κ, .o (.qs e' eb Q (.entry x y)) [κr])], wrD o.dst (.v (.one (.row κr))), []⟩ :=
  opok_pure hd fun G ρ s a w hrel hr => by
    obtain ⟨r12, r3⟩ := Reads.app.1 hr
    obtain ⟨r1, r2⟩ := Reads.app.1 r12
    have r3 := (Reads.cons.1 r3).1
    have e1 := obj_eval (ev_rep hm r1 hrel)
    have e2 := pair_eval (ev_rep hx r2 hrel)
    obtain ⟨r, M, Y, f⟩ := hrel.vec κ _ r3
    have hrun := run_lookQ (P := C.P) (x := x) (y := y) ht hk hp hz f.map
    have hs := f.slot x y
    simp only [QHole.at, and_self, if_true] at hs
    obtain ⟨h1, A, n, c, h2⟩ := hs
    simp only [List.map_cons, List.map_nil, List.cons.injEq, and_true] at h1
    refine ⟨valOf M x y, ?_, ⟨by rw [h2]; rfl, h1.symm, A, n, c, h1.trans h2⟩⟩
    simp only [execOp, ho, e1, e2, f.isM, Sem.run_bind, hrun, Result.andThen_ok, Sem.run_pure]

/-! #### written -/
theorem setMap_heap {w : World} {r : Nat} {o : Obj} {ρ : Places} {κ : Nat} (hX : ρ.X κ r) {b : Nat} (h : ¬ Owns ρ (.vec κ) κ b) : (setMap w r o).heap[b]? = w.heap[b]? :=
  setMap_other w o fun e => h (.inr ⟨rfl, e ▸ hX⟩)

theorem valOf_upd_same (M : MapM) (x y : Int) (v : Value) (n : Nat) : valOf (updM M x y (some (v, n))) x y = v := by simp [valOf, updM]
theorem valOf_upd_none (M : MapM) (x y : Int) : valOf (updM M x y none) x y = .slice none 0 0 := by simp [valOf, updM]
theorem valOf_upd_ne (M : MapM) {x y c d : Int} (q : Option (Value × Nat)) (h : ¬ (c = x ∧ d = y)) : valOf (updM M x y q) c d = valOf M c d := by simp [valOf, updM_ne M q h]

theorem SlotAt.upd_ne {w : World} {e eb : TypeId} {ms : List (List Int)} {M : MapM} {x y c d : Int} {q : Option (Value × Nat)} {Y : Nat → Prop} {vs : List Value} {k : HK} (h : SlotAt w e eb ms M c d Y vs k) (hne : ¬ (c = x ∧ d = y)) : SlotAt w e eb ms (updM M x y q) c d Y vs k := by
  unfold SlotAt at h ⊢
  rw [valOf_upd_ne M q hne, updM_ne M q hne]
  exact h

theorem QHole.at_entry_ne {x y c d : Int} (h : ¬ (c = x ∧ d = y)) : (QHole.entry x y).at c d = .own := by simp [QHole.at, h]
theorem QHole.at_stamp_ne {x y c d : Int} (h : ¬ (c = x ∧ d = y)) : (QHole.stamp x y).at c d = .own := by simp [QHole.at, h]
theorem QHole.at_msg_ne {x y c d : Int} {i : Nat} (h : ¬ (c = x ∧ d = y)) : (QHole.msg x y i).at c d = .own := by simp [QHole.at, h]
theorem QHole.at_entry {x y : Int} : (QHole.entry x y).at x y = .out := by simp [QHole.at]
theorem QHole.at_stamp {x y : Int} : (QHole.stamp x y).at x y = .stamped := by simp [QHole.at]
theorem QHole.at_msg {x y : Int} {i : Nat} : (QHole.msg x y i).at x y = .msg i := by simp [QHole.at]

/-- The world behind a write into the map: the rows lie as they lay. -/
theorem QAt.slots {w : World} {e eb : TypeId} {Q : QF} {h : QHole} {v : Value} {X : Nat → Prop} {vs : List Value} {r : Nat} {M : MapM} {Y : Int → Int → Nat → Prop} (f : QAt w e eb Q h v X vs r M Y) (o : Obj) (c d : Int) : SlotAt (setMap w r o) e eb (Q c d) M c d (Y c d) vs (h.at c d) :=
  (f.slot c d).same fun n hn => setMap_other w o (f.sub c d n hn).2

theorem ok_updQ {t k e : TypeId} {i : TInfo} {m z u : Operand} {κ κr κ2 : Nat} {e' eb : TypeId} {Q : QF} {x y : Int} (ho : o.op = .mapUpdate t m z u) (hd : o.dst = none) (ht : tinfo C.P t = some i) (hk : i.k = .map k e) (hp : pairT C.P k = true)
    (hm : ev g m = some (.v (.one (.obj κ)))) (hx : ev g z = some (pairC x y)) (hu : ev g u = some (.v (.one (.row κ2)))) :
    OpOK C o ⟨evr g m ++ evr g z ++ evr g u ++ [(.vec κ, .o (.qs e' eb Q (.entry x y)) [κr])], [(.vec κ, some (.o (.qs e' eb Q (.entry x y)) [κ2]))], []⟩ :=
  opok_skip hd fun G ρ s a w hrel hr hf => by
    obtain ⟨r123, r4⟩ := Reads.app.1 hr
    obtain ⟨r12, r3⟩ := Reads.app.1 r123
    obtain ⟨r1, r2⟩ := Reads.app.1 r12
    have r4 := (Reads.cons.1 r4).1
    have e1 := obj_eval (ev_rep hm r1 hrel)
    have e2 := pair_eval (ev_rep hx r2 hrel)
    obtain ⟨_, e3, A, n, c, e4⟩ := ev_rep hu r3 hrel
    obtain ⟨r, M, Y, f⟩ := hrel.vec κ _ r4
    obtain ⟨ob, nb, hrun, hM⟩ := run_mapUpdate (P := C.P) (und_map ht hk) (pairT_spec hp) f.map (b := y) (a := x) (a.eval u)
    refine ⟨setMap w r ob, G, ρ, ?_, ?_⟩
    · simp only [execOp, ho, e1, e2, f.isM, Sem.run_bind, hrun, Result.andThen_ok, Sem.run_pure]
    · refine hrel.retag r4 (w' := setMap w r ob) rfl rfl rfl (setMap_size _ _ _) (fun b hb => setMap_heap f.inX hb) (fun _ _ => rfl) (fun _ _ => rfl) ?_
      refine ⟨r, _, Y, f.isM, f.inX, hM, f.sub, f.apart, fun c' d' => ?_⟩
      by_cases hcd : c' = x ∧ d' = y
      · obtain ⟨rfl, rfl⟩ := hcd
        rw [QHole.at_entry]
        refine ⟨?_, A, n, c, ?_⟩
        · rw [valOf_upd_same, e3]; rfl
        · rw [valOf_upd_same, e3, e4]
      · have := f.slots ob c' d'
        rw [QHole.at_entry_ne hcd] at this ⊢
        exact this.upd_ne hcd

def updS (S : SF) (x y n : Int) : SF := fun c d => if c = x ∧ d = y then n else S c d
theorem ok_updS {t k e : TypeId} {i : TInfo} {m z u : Operand} {yu : SV} {κ : Nat} {S : SF} {ks : List Nat} {x y n : Int} (ho : o.op = .mapUpdate t m z u) (hd : o.dst = none) (ht : tinfo C.P t = some i) (hk : i.k = .map k e) (hp : pairT C.P k = true)
    (hm : ev g m = some (.v (.one (.obj κ)))) (hx : ev g z = some (pairC x y)) (hu : ev g u = some yu) (hn : litV yu = some (.int .i64 n)) :
    OpOK C o ⟨evr g m ++ evr g z ++ evr g u ++ [(.vec κ, .o (.cuts S) ks)], [(.vec κ, some (.o (.cuts (updS S x y n)) ks))], []⟩ :=
  opok_skip hd fun G ρ s a w hrel hr hf => by
    obtain ⟨r123, r4⟩ := Reads.app.1 hr
    obtain ⟨r12, r3⟩ := Reads.app.1 r123
    obtain ⟨r1, r2⟩ := Reads.app.1 r12
    have r4 := (Reads.cons.1 r4).1
    have e1 := obj_eval (ev_rep hm r1 hrel)
    have e2 := pair_eval (ev_rep hx r2 hrel)
    have e3 := (litV_rep hn (ev_rep hu r3 hrel)).1
    obtain ⟨r, M, f1, f2, f3, f4⟩ := hrel.vec κ _ r4
    obtain ⟨ob, nb, hrun, hM⟩ := run_mapUpdate (P := C.P) (und_map ht hk) (pairT_spec hp) f3 (a := x) (b := y) (.int .i64 n)
    refine ⟨setMap w r ob, G, ρ, ?_, ?_⟩
    · simp only [execOp, ho, e1, e2, e3, f1, Sem.run_bind, hrun, Result.andThen_ok, Sem.run_pure]
    · refine hrel.retag r4 (w' := setMap w r ob) rfl rfl rfl (setMap_size _ _ _) (fun b hb => setMap_heap f2 hb) (fun _ _ => rfl) (fun _ _ => rfl) ?_
      refine ⟨r, _, f1, f2, hM, fun c d => ?_⟩
      by_cases hcd : c = x ∧ d = y
      · obtain ⟨rfl, rfl⟩ := hcd
        exact .inr ⟨nb, by simp [updM, updS]⟩
      · simp only [updS, updM, if_neg hcd]
        exact f4 c d

theorem ok_entryQ {t k e : TypeId} {i : TInfo} {m z : Operand} {κ κr κs : Nat} {e' eb : TypeId} {Q : QF} {x y : Int} (ho : o.op = .mapEntry t m z) (hd : dstOK C o.dst) (ht : tinfo C.P t = some i) (hk : i.k = .map k e) (hp : pairT C.P k = true) (hz : zeroOf C.P e = some (.slice none 0 0))
    (hm : ev g m = some (.v (.one (.obj κ)))) (hx : ev g z = some (pairC x y)) :
    OpOK C o ⟨evr g m ++ evr g z ++ [(.vec κ, .o (.qs e' eb Q (.entry x y)) [κr])], [(.vec κ, some (.o (.qs e' eb Q (.stamp x y)) [κr, κs]))] ++ wrD o.dst (.tup [.one (.row κr), .one (.obj κs)]), [κs]⟩ :=
  opok_val hd fun G ρ s a w hrel hr hf => by
    obtain ⟨r12, r3⟩ := Reads.app.1 hr
    obtain ⟨r1, r2⟩ := Reads.app.1 r12
    have r3 := (Reads.cons.1 r3).1
    have e1 := obj_eval (ev_rep hm r1 hrel)
    have e2 := pair_eval (ev_rep hx r2 hrel)
    obtain ⟨r, M, Y, f⟩ := hrel.vec κ _ r3
    obtain ⟨ob, nb, hrun, hM⟩ := run_mapEntry (P := C.P) (und_map ht hk) (pairT_spec hp) (run_zeroOf hz w) f.map (a := x) (b := y)
    have hrun : (Instr.mapEntry t (.map (some r)) (pairV x y)).run C.P w = .ok (.tuple #[valOf M x y, .int .i64 nb]) (setMap w r ob) := hrun
    have hM : MapIs (setMap w r ob) r (updM M x y (some (valOf M x y, nb))) := hM
    have hs := f.slot x y
    rw [QHole.at_entry] at hs
    obtain ⟨h1, A, n, c, h2⟩ := hs
    simp only [List.map_cons, List.map_nil, List.cons.injEq, and_true] at h1
    have hκs : ¬ Mentions s κs := hf κs (by simp)
    have hne : ∀ k, Mentions s k → k ≠ κs := fun k hk e => hκs (e ▸ hk)
    have hr1 : Mentions s κr := .inr ⟨_, _, r3, .inr (by simp [Cont.keys])⟩
    have hr2 : Mentions s κ := .inr ⟨_, _, r3, .inl rfl⟩
    refine ⟨.tuple #[valOf M x y, .int .i64 nb], setMap w r ob, G, setAt ρ κs (.int .i64 nb), ?_, ?_, ⟨[valOf M x y, .int .i64 nb], rfl, .cons ?_ (.cons ?_ .nil)⟩⟩
    · simp only [execOp, ho, e1, e2, f.isM, Sem.run_bind, hrun, Result.andThen_ok, Sem.run_pure]
    · refine hrel.retag r3 (w' := setMap w r ob) rfl rfl rfl (setMap_size _ _ _) (fun b hb => setMap_heap f.inX hb) (fun k hk => setAt_ne _ _ (hne k hk)) (fun k hk => setAt_X_ne _ _ (hne k hk)) ?_
      show Tag.rep (.qs e' eb Q (.stamp x y)) (setMap w r ob) (setAt ρ κs (.int .i64 nb) κ) ((setAt ρ κs (.int .i64 nb)).X κ) ([κr, κs].map (setAt ρ κs (.int .i64 nb)).v)
      rw [setAt_ne _ _ (hne κ hr2), setAt_X_ne _ _ (hne κ hr2)]
      refine ⟨r, _, Y, f.isM, f.inX, hM, f.sub, f.apart, fun c' d' => ?_⟩
      by_cases hcd : c' = x ∧ d' = y
      · obtain ⟨rfl, rfl⟩ := hcd
        rw [QHole.at_stamp]
        refine ⟨nb, ?_, ?_, A, n, c, ?_⟩
        · rw [valOf_upd_same, updM_same]
        · rw [valOf_upd_same]
          simp only [List.map_cons, List.map_nil]
          rw [setAt_ne _ _ (hne κr hr1), setAt_same, h1]
        · rw [valOf_upd_same, h2]
      · have := f.slots ob c' d'
        rw [QHole.at_entry_ne hcd] at this
        rw [QHole.at_stamp_ne hcd]
        exact SlotAt.upd_ne (k := .own) this hcd
    · exact ⟨by rw [h2]; rfl, by rw [setAt_ne _ _ (hne κr hr1)]; exact h1.symm, A, n, c, by rw [setAt_ne _ _ (hne κr hr1)]; exact h1.trans h2⟩
    · exact ⟨rfl, (setAt_same _ _ _).symm⟩

theorem ok_entryStoreQ {t : TypeId} {m z u : Operand} {κ κr κs κ2 : Nat} {e' eb : TypeId} {Q : QF} {x y : Int} (ho : o.op = .entryStore t m z u) (hd : o.dst = none)
    (hm : ev g m = some (.v (.one (.obj κ)))) (hx : ev g z = some (.v (.one (.obj κs)))) (hu : ev g u = some (.v (.one (.row κ2)))) :
    OpOK C o ⟨evr g m ++ evr g z ++ evr g u ++ [(.vec κ, .o (.qs e' eb Q (.stamp x y)) [κr, κs])], [(.vec κ, some (.o (.qs e' eb Q (.entry x y)) [κ2]))], []⟩ :=
  opok_skip hd fun G ρ s a w hrel hr hf => by
    obtain ⟨r123, r4⟩ := Reads.app.1 hr
    obtain ⟨r12, r3⟩ := Reads.app.1 r123
    obtain ⟨r1, r2⟩ := Reads.app.1 r12
    have r4 := (Reads.cons.1 r4).1
    have e1 := obj_eval (ev_rep hm r1 hrel)
    have e2 := obj_eval (ev_rep hx r2 hrel)
    obtain ⟨_, e3, A, n, c, e4⟩ := ev_rep hu r3 hrel
    obtain ⟨r, M, Y, f⟩ := hrel.vec κ _ r4
    have hs := f.slot x y
    rw [QHole.at_stamp] at hs
    obtain ⟨nb, h1, h2, _⟩ := hs
    simp only [List.map_cons, List.map_nil, List.cons.injEq, and_true] at h2
    obtain ⟨ob, hrun, hM⟩ := run_entryStore (P := C.P) (mt := t) f.map h1 (a.eval u)
    refine ⟨setMap w r ob, G, ρ, ?_, ?_⟩
    · simp only [execOp, ho, e1, e2, h2.2, f.isM, Sem.run_bind, hrun, Result.andThen_ok, Sem.run_pure]
    · refine hrel.retag r4 (w' := setMap w r ob) rfl rfl rfl (setMap_size _ _ _) (fun b hb => setMap_heap f.inX hb) (fun _ _ => rfl) (fun _ _ => rfl) ?_
      refine ⟨r, _, Y, f.isM, f.inX, hM, f.sub, f.apart, fun c' d' => ?_⟩
      by_cases hcd : c' = x ∧ d' = y
      · obtain ⟨rfl, rfl⟩ := hcd
        rw [QHole.at_entry]
        refine ⟨?_, A, n, c, ?_⟩
        · rw [valOf_upd_same, e3]; rfl
        · rw [valOf_upd_same, e3, e4]
      · have := f.slots ob c' d'
        rw [QHole.at_stamp_ne hcd] at this
        rw [QHole.at_entry_ne hcd]
        exact SlotAt.upd_ne (k := .own) this hcd

def updQ (Q : QF) (x y : Int) (ms : List (List Int)) : QF := fun c d => if c = x ∧ d = y then ms else Q c d

theorem run_delB {a : Act} {w : World} {x z : Operand} {t u : TypeId} (ho : o.op = .call { callee := .builtin .delete, args := #[x, z], argTypes := #[t, u] }) (v' : Value) (w' : World) (h : (Builtin.delete_ #[t, u] o.type #[a.eval x, a.eval z]).run C.P w = .ok v' w') :
    (execOp a.eval o).run C.P w = .ok (.value v') w' := by
  simp [execOp, ho, resolve, invoke, builtin, h]
theorem run_clrB {a : Act} {w : World} {x : Operand} {t : TypeId} (ho : o.op = .call { callee := .builtin .clear, args := #[x], argTypes := #[t] }) (v' : Value) (w' : World) (h : (Builtin.clear_ #[t] o.type #[a.eval x]).run C.P w = .ok v' w') :
    (execOp a.eval o).run C.P w = .ok (.value v') w' := by
  simp [execOp, ho, resolve, invoke, builtin, h]

theorem ok_delQ {t u k e : TypeId} {i : TInfo} {m z : Operand} {κ : Nat} {e' eb : TypeId} {Q : QF} {x y : Int} (ho : o.op = .call { callee := .builtin .delete, args := #[m, z], argTypes := #[t, u] }) (hd : dstOK C o.dst) (ht : tinfo C.P t = some i) (hk : i.k = .map k e) (hp : pairT C.P k = true)
    (hm : ev g m = some (.v (.one (.obj κ)))) (hx : ev g z = some (pairC x y)) :
    OpOK C o ⟨evr g m ++ evr g z ++ [(.vec κ, .o (.qs e' eb Q .none) [])], [(.vec κ, some (.o (.qs e' eb (updQ Q x y []) .none) []))] ++ wrD o.dst (.tup []), []⟩ :=
  opok_val hd fun G ρ s a w hrel hr hf => by
    obtain ⟨r12, r3⟩ := Reads.app.1 hr
    obtain ⟨r1, r2⟩ := Reads.app.1 r12
    have r3 := (Reads.cons.1 r3).1
    have e1 := obj_eval (ev_rep hm r1 hrel)
    have e2 := pair_eval (ev_rep hx r2 hrel)
    obtain ⟨r, M, Y, f⟩ := hrel.vec κ _ r3
    obtain ⟨ob, hrun, hM⟩ := run_delete (P := C.P) (und_map ht hk) (pairT_spec hp) f.map u o.type (a := x) (b := y)
    refine ⟨.tuple #[], setMap w r ob, G, ρ, run_delB ho _ _ (by rw [e1, e2, f.isM, hrun]), ?_, ⟨[], rfl, .nil⟩⟩
    refine hrel.retag r3 (w' := setMap w r ob) rfl rfl rfl (setMap_size _ _ _) (fun b hb => setMap_heap f.inX hb) (fun _ _ => rfl) (fun _ _ => rfl) ?_
    refine ⟨r, _, fun c d => if c = x ∧ d = y then fun _ => False else Y c d, f.isM, f.inX, hM, ?_, ?_, ?_⟩
    · intro c d n hn
      split at hn
      · exact hn.elim
      · exact f.sub c d n hn
    · intro c d c' d' n hn hn'
      split at hn
      · exact hn.elim
      · split at hn'
        · exact hn'.elim
        · exact f.apart c d c' d' n hn hn'
    · intro c d
      have hq : QHole.none.at c d = .own := rfl
      rw [hq]
      by_cases hcd : c = x ∧ d = y
      · obtain ⟨rfl, rfl⟩ := hcd
        simp only [and_self, if_true]
        show NestAt _ _ _ _ none _ _ []
        rw [valOf_upd_none]
        simp only [updQ, and_self, if_true]
        exact ⟨[], World.ownsRow_nil _ 0 e' 1, by simp [blk], by simp, by simp, by simp, by simp⟩
      · simp only [if_neg hcd]
        have := f.slots ob c d
        rw [hq] at this
        have e3 : updQ Q x y [] c d = Q c d := by simp [updQ, hcd]
        rw [e3]
        exact SlotAt.upd_ne (k := .own) this hcd

theorem ok_clrS {t k e : TypeId} {i : TInfo} {m : Operand} {κ : Nat} {S : SF} {ks : List Nat} (ho : o.op = .call { callee := .builtin .clear, args := #[m], argTypes := #[t] }) (hd : dstOK C o.dst) (ht : tinfo C.P t = some i) (hk : i.k = .map k e)
    (hm : ev g m = some (.v (.one (.obj κ)))) :
    OpOK C o ⟨evr g m ++ [(.vec κ, .o (.cuts S) ks)], [(.vec κ, some (.o (.cuts fun _ _ => 0) ks))] ++ wrD o.dst (.tup []), []⟩ :=
  opok_val hd fun G ρ s a w hrel hr hf => by
    obtain ⟨r1, r3⟩ := Reads.app.1 hr
    have r3 := (Reads.cons.1 r3).1
    have e1 := obj_eval (ev_rep hm r1 hrel)
    obtain ⟨r, M, f1, f2, f3, f4⟩ := hrel.vec κ _ r3
    obtain ⟨ob, hrun, hM⟩ := run_clear (P := C.P) (und_map ht hk) f3 o.type
    refine ⟨.tuple #[], setMap w r ob, G, ρ, run_clrB ho _ _ (by rw [e1, f1, hrun]), ?_, ⟨[], rfl, .nil⟩⟩
    refine hrel.retag r3 (w' := setMap w r ob) rfl rfl rfl (setMap_size _ _ _) (fun b hb => setMap_heap f2 hb) (fun _ _ => rfl) (fun _ _ => rfl) ?_
    exact ⟨r, _, f1, f2, hM, fun _ _ => .inl ⟨rfl, rfl⟩⟩
end Go.AM
