import Derived.Test.YtbohgpdpglfepaaV3
set_option maxHeartbeats 4000000
set_option maxRecDepth 10000
set_option linter.unusedVariables false
set_option linter.unusedSimpArgs false
namespace Go.AM
open Go.RowKit

/-! ### 28. Nil in a row's cells is a slice without elements -/
def CT (x y : T) : Prop := x = y ∨ (x = .lit (.slice none 0 0) ∧ ∃ sz, y = .sl sz [])
theorem CT.rep {G : Heap} {v : Value} {x y : T} (h : CT x y) (hv : VRep G v x) : VRep G v y := by
  rcases h with rfl | ⟨rfl, sz, rfl⟩
  · exact hv
  · have := hv.lit_inv
    subst this
    exact VRep.nil G sz
theorem sl_deep {G : Heap} {v : Value} {sz : Nat} {rows rows' : List (List T)} (h : All2 (All2 CT) rows rows') (hv : VRep G v (.sl sz rows)) : VRep G v (.sl sz rows') := by
  cases hv with
  | sl A n c sz rows u hn hc hsz hA hcell hrec =>
    have hl := h.length
    refine .sl A n c sz rows' u (by omega) hc ?_ hA hcell ?_
    · intro i cells hi
      have hlt : i < rows.length := by rw [hl]; exact (List.getElem?_eq_some_iff.1 hi).1
      obtain ⟨c0, h1, h2⟩ : ∃ c0, rows[i]? = some c0 ∧ All2 CT c0 cells := by
        obtain ⟨b, hb, hr⟩ := h.get hi
        exact ⟨b, hb, hr⟩
      rw [← h2.length]; exact hsz i c0 h1
    · intro i cells k t hi hk
      obtain ⟨c0, h1, h2⟩ := h.get hi
      obtain ⟨t0, h3, h4⟩ := h2.get hk
      exact h4.rep (hrec i c0 k t0 h1 h3)

def DV (x y : PV) : Prop := x = y ∨ ∃ sz rows rows', x = .one (.sl sz rows) ∧ y = .one (.sl sz rows') ∧ All2 (All2 CT) rows rows'
theorem DV.rep {G : Heap} {v : Value} {x y : PV} (h : DV x y) (hv : V1Rep G noPlaces v x.up) : V1Rep G noPlaces v y.up := by
  rcases h with rfl | ⟨sz, rows, rows', rfl, rfl, hr⟩
  · exact hv
  · exact ⟨hv.1, sl_deep hr hv.2⟩
theorem pure_deep {P : Program} {f : FuncId} {xs ys : List PV} {res : PR} (h : Pure P f ys res) (hd : All2 DV xs ys) : Pure P f xs res := by
  intro G w vals hle hvals
  refine h G w vals hle ?_
  clear hle h
  induction hd generalizing vals with
  | nil => exact hvals
  | cons h1 t ih =>
    cases hvals with
    | cons h2 t2 => exact .cons (h1.rep h2) (ih _ t2)
end Go.AM
namespace Go.Proofs.Ytbohgpdpglfepaa
open Go.AM Go.RowKit
attribute [local irreducible] AWP thenL blockL AM.Leaves LeavesO RunD
attribute [local go_sem] runs stepR actF inF frzA frzW lastW act act1 actPick actNil actBin
  actUn actConv actExtract actFieldAddr actField actAlloc keysOf actBox actLoad treesOf actStore actIndex
  actLen actMx srcL actAppend actMake actBuild actBuildSlice boundL actSlice actCall actEqS isStruct
  isSlice actText actCopy litsOf kindsOK fieldsPlain eqAll eqop dstB dstN boolS litB
  litV sv binv unv lits takeC cellsR trees cellsW mxv repl parts
  fillAt fillRows V1.cs mkV ev evr AM.look put del applyL delD wrD
  undefS SV.to V1.to At.to keysL notIn freshKey PV.up PR.up entry entryV evp
  isAt actPtrNil capsL actFunc sameV sameVs pureCtx doc mkVar AM.Loc.key Cont.keys SV.keys
  V1.keys At.keys Cont.sub SV.sub V1.sub At.sub guardR argsL callR Nat.blt_eq Nat.blt Nat.ble
  Nat.beq_eq_true_eq beq_self_eq_true Array.toList List.map List.append_eq List.nil_append List.cons_append List.append_nil List.append_assoc Bool.and_eq_true decide_true decide_false
  decide_eq_true_eq Bool.not_true Bool.not_false reduceCtorEq if_true if_false ite_true ite_false reduceIte AM.Loc.slot.injEq AM.Loc.cell.injEq AM.Loc.vec.injEq
  List.getElem?_cons_zero List.getElem?_cons_succ List.getElem?_nil Option.map_some Option.map_none Option.toList List.flatMap_nil List.flatMap_cons Bool.and_true Bool.true_and Bool.and_false Bool.false_and
  Bool.true_eq_false Bool.false_eq_true Nat.reduceBEq Nat.reduceEqDiff bool_beq_tt bool_beq_ff bool_beq_tf bool_beq_ft List.length_cons List.length_nil List.drop List.take
  List.drop_zero List.take_zero List.all_cons List.all_nil Value.oneCell' Nat.zero_add Nat.reduceAdd Nat.reduceMul Nat.reduceSub Nat.reduceLT Nat.reduceLeDiff Int.reduceLT
  Int.reduceLE Int.reduceEq Int.reduceBEq Int.reduceBNe Int.reduceAdd Int.reduceSub Int.reduceMul Int.reduceNeg Int.reduceToNat Nat.succ_ne_zero List.replicate and_true
  true_and and_false false_and and_self ge_iff_le gt_iff_lt bne_self_eq_false List.zip_cons_cons List.zip_nil_left List.zip List.zipWith Int.natCast_nonneg
  Int.toNat_natCast List.getElem?_map List.length_map sT sI sB sR sP rV AllIn Int.toNat_zero Int.ofNat_zero
  Int.natCast_zero Nat.le_refl List.mapM_cons List.mapM_nil Option.bind_eq_bind Option.bind_some Option.pure_def List.set_cons_zero List.set_cons_succ List.length_set tt2 tt3
  tt4 tt5 tt9 tt12 tt21 tt22 tt23 tt24 tt25 tt36 tt37 tt43
  tt44 tt51 tt52 tt53 tt59 tt67 tt68 tt69 tt74 tt75 tt76 tt77
  tt78 tt79 tt89 tt92 tt95 tt96 tt97 tt98 tt99 tt102 tt103 tt106
  tt107 tt108 tt114 tt115 tt116 tt117 tt118 tt119 tt120 tt122 tt124 tt125
  tt126 tt127 tt130 tt131 tt132 tt133 tt134 tt135 tt137 tt138 tt139 tt147
  tt148 tt149 tt159 tt164 tt165 tt167 tt168 tt169 tt170 tt171 tt190 tt191
  tt194 tt200 tt208 tt212
attribute [local go_sem] vlit bal rInt rBool vInts pInts vvInts vPairs att vAtts vBy cm iv vvBy lI lB rpL vRp rK plL

/-- A reply of which only the sender is told. -/
def rawRp (f : Int) : List T := [.lit (.int .i64 f), .lit (.int .i64 0), .lit (.int .i64 0), .lit (.int .i64 0), .lit (.int .i64 0), .lit (.int .i64 0), .lit (.int .i64 0), .lit (.int .i64 0), .lit (.int .i64 0), .lit (.string ⟨#[]⟩), .lit (.slice none 0 0), .lit (.int .i64 0), .lit (.slice none 0 0), .lit (.bool false)]
theorem raw_rep (f : Int) : All2 CT (rawRp f) (rpL ⟨f, in00⟩) :=
  .cons (.inl rfl) (.cons (.inl rfl) (.cons (.inl rfl) (.cons (.inl rfl) (.cons (.inl rfl) (.cons (.inl rfl) (.cons (.inl rfl) (.cons (.inl rfl) (.cons (.inl rfl) (.cons (.inl rfl) (.cons (.inr ⟨rfl, 1, rfl⟩) (.cons (.inl rfl) (.cons (.inr ⟨rfl, 1, rfl⟩) (.cons (.inl rfl) .nil)))))))))))))
attribute [local go_sem] rawRp
theorem in00_ok : in00.ok := ⟨by simp [in00], by simp [in00]⟩

theorem c72 : Pure Try.prog 72 [] (rBool true) := by
  have k68 := c68 3 0 [⟨1, in00⟩, ⟨2, in00⟩] (by simp) (by simp [in00_ok])
  have hd : dc 3 0 [⟨1, in00⟩, ⟨2, in00⟩] = ⟨2, 0, ⟨#[]⟩, [], 0, [0, 0, 0]⟩ := rfl
  rw [hd] at k68
  have kw68 : Pure Try.prog 68 [vlit (.int .i64 3), vlit (.int .i64 0), .one (.sl 14 [rawRp 1, rawRp 2])] (.v (.agg (plL ⟨2, 0, ⟨#[]⟩, [], 0, [0, 0, 0]⟩))) :=
    pure_deep k68 (.cons (.inl rfl) (.cons (.inl rfl) (.cons (.inr ⟨_, _, _, rfl, rfl, .cons (raw_rep 1) (.cons (raw_rep 2) .nil)⟩) .nil)))
  have kw104 : Pure Try.prog 104 [vlit (.int .i64 3)] (.tup [att 0 [0, 0, 0], vlit (.bool true)]) := c104 3 (by decide)
  have h3 : ((3 : Nat) : Int) = 3 := rfl
  refine pure_of_body Try.func72 rfl (by simp [Try.f72]) ?_; rw [Try.ntmps72, Try.results72]; intro w0 G0
  ((repeat' (first | refine thenL_n ?_ | refine thenL_r ?_ | refine thenL_x ?_ | refine blockL_n ?_ | refine blockL_r ?_ | refine blockL_x ?_ | refine blockL_y rfl ?_ | refine awp_seq ?_ | refine awp_block ?_ | refine awp_ret ?_ | refine awp_exit ?_ | refine awp_skip ?_ | exact absurd hcond (by decide) | (first | (refine awp_txt ?_; refine runs_to [6] (by simp only [go_sem, h3]; rfl) ?_) | (refine awp_draw mixed ?_; refine runs_to [6] (by simp only [go_sem, h3]; rfl) ?_)) | refine runD_nil ⟨by kernel_rfl, ?_⟩ | refine runD_nil ?_ | (refine runD_call (kw68) cb68 (by rfl) (by simp only [go_sem, h3]; rfl) (by ((repeat' (first | exact All2.nil | refine All2.cons ?_ ?_ | exact SubV.one (SubT.same _) | exact SubV.one (SubT.nil _) | refine SubV.agg ?_ | exact SubT.same _ | exact SubT.nil _)); first | done | fail)) ?_; refine runs_to [6] (by simp only [go_sem, h3]; rfl) ?_) | (refine runD_call (kw104) cb104 (by rfl) (by simp only [go_sem, h3]; rfl) (by ((repeat' (first | exact All2.nil | refine All2.cons ?_ ?_ | exact SubV.one (SubT.same _) | exact SubV.one (SubT.nil _) | refine SubV.agg ?_ | exact SubT.same _ | exact SubT.nil _)); first | done | fail)) ?_; refine runs_to [6] (by simp only [go_sem, h3]; rfl) ?_) | (refine awp_cond (b := _) (by simp only [go_sem, evB, h3]; rfl) (fun hcond => ?_) (fun hcond => ?_)))); all_goals (refine leaves_ok (by first | exact Or.inl rfl | exact Or.inr rfl) (by simp only [go_sem, resAll, resL, packL, vecsOf, freezeAll, freezeL, h3]; rfl) ?_; (first | refine SubR.v ?_ | refine SubR.tup ?_); ((repeat' (first | exact All2.nil | refine All2.cons ?_ ?_ | exact SubV.one (SubT.same _) | exact SubV.one (SubT.nil _) | refine SubV.agg ?_ | exact SubT.same _ | exact SubT.nil _)); first | done | fail)))

/-- Another promise. -/
def setP (b1 b2 : Int) (q : RP) : RP := { q with x := { q.x with p1 := b1, p2 := b2 } }
theorem setP_kn (n b1 b2 : Int) : ∀ (l a : List RP), (l.map (setP b1 b2)).foldl (addK n) (a.map (setP b1 b2)) = (l.foldl (addK n) a).map (setP b1 b2)
  | [], a => rfl
  | r :: l, a => by
    rw [List.map_cons, List.foldl_cons, List.foldl_cons, ← setP_kn n b1 b2 l (addK n a r)]
    congr 1
    have h1 : riOK n (setP b1 b2 r).x = riOK n r.x := rfl
    have h2 : (a.map (setP b1 b2)).any (fun q => q.f == (setP b1 b2 r).f) = a.any fun q => q.f == r.f := by
      rw [List.any_map]; rfl
    unfold addK
    rw [h1, h2]
    have h3 : (setP b1 b2 r).f = r.f := rfl
    rw [h3]
    split
    · simp
    · rfl
theorem setP_idx (b1 b2 : Int) (s : Int) : ∀ (k : List RP), idx (fun q => q.x.st == s) (k.map (setP b1 b2)) = idx (fun q => q.x.st == s) k
  | [] => rfl
  | r :: k => by
    have ih := setP_idx b1 b2 s k
    rw [List.map_cons, idx, idx, ih]; rfl
theorem setP_pk (b1 b2 : Int) (s : Int) : ∀ (k : List RP) (b : Option RP), (k.map (setP b1 b2)).foldl (pk1 fun q => q.x.st == s) (b.map (setP b1 b2)) = (k.foldl (pk1 fun q => q.x.st == s) b).map (setP b1 b2)
  | [], b => rfl
  | r :: k, b => by
    rw [List.map_cons, List.foldl_cons, List.foldl_cons, ← setP_pk b1 b2 s k]
    congr 1
    have h1 : ((setP b1 b2 r).x.st == s) = (r.x.st == s) := rfl
    cases h : r.x.st == s with
    | false => rw [pk1_no (by rw [h1, h]), pk1_no h]
    | true =>
      cases b with
      | none => rw [pk1_first h]; exact pk1_first (by rw [h1, h])
      | some z =>
        cases hl : less z.x.v1 z.x.v2 r.x.v1 r.x.v2 with
        | true => rw [pk1_lt h hl]; exact pk1_lt (b := setP b1 b2 z) (by rw [h1, h]) hl
        | false => rw [pk1_ge h hl]; exact pk1_ge (b := setP b1 b2 z) (by rw [h1, h]) hl
theorem setP_wt (n leader b1 b2 : Int) (k : List RP) : wt n leader (k.map (setP b1 b2)) = (wt n leader k).map (setP b1 b2) := by
  have h1 : (k.map (setP b1 b2)).filter wit = (k.filter wit).map (setP b1 b2) := by rw [List.filter_map]; rfl
  have h2 : (k.map (setP b1 b2)).any (fun q => q.f == leader) = k.any fun q => q.f == leader := by rw [List.any_map]; rfl
  unfold wt
  rw [h1, h2, List.length_map, List.getElem?_map]
  split <;> rfl
theorem setP_plan (kd b1 b2 : Int) (q : RP) : plan kd (setP b1 b2 q).x = plan kd q.x := rfl
theorem dcK_setP (n leader b1 b2 : Int) (k : List RP) : dcK n leader (k.map (setP b1 b2)) = dcK n leader k := by
  unfold dcK
  have h2 := setP_pk b1 b2 2 k none
  have h1 := setP_pk b1 b2 1 k none
  simp only [Option.map_none] at h1 h2
  rw [setP_idx, List.length_map, setP_wt, List.getElem?_map]
  unfold pk
  rw [h1, h2]
  split
  · cases k[(idx (fun q => q.x.st == 3) k).toNat]? <;> rfl
  · split
    · rfl
    · cases List.foldl (pk1 fun q => q.x.st == 2) none k with
      | some q => rfl
      | none =>
        simp only [Option.map_none]
        cases wt n leader k with
        | some q => rfl
        | none =>
          simp only [Option.map_none]
          cases List.foldl (pk1 fun q => q.x.st == 1) none k with
          | some q => rfl
          | none => rfl
theorem dc_setP (n leader b1 b2 : Int) (l : List RP) : dc n leader (l.map (setP b1 b2)) = dc n leader l := by
  unfold dc
  have : kn n (l.map (setP b1 b2)) = (kn n l).map (setP b1 b2) := setP_kn n b1 b2 l []
  rw [this, dcK_setP]

theorem plan_len {kd : Int} {x : IN} (h : x.ok) : (plan kd x).d.length ≤ 4611686018427387903 := by
  have := h.d
  unfold plan
  split
  · simp
  · simp only; omega
theorem dc_len {n leader : Int} {l : List RP} (hx : ∀ q, q ∈ l → q.x.ok) : (dc n leader l).d.length ≤ 4611686018427387903 := by
  have hkx : ∀ q, q ∈ kn n l → q.x.ok := fun q hq => hx q ((kn_mem n l [] hq).resolve_left (by simp))
  unfold dc
  split
  · rename_i hn
    generalize kn n l = k at hkx
    unfold dcK
    split
    · split
      · rename_i q hq
        exact plan_len (hkx q (List.mem_of_getElem? hq))
      · simp [pl0]
    · split
      · simp [pl0]
      · split
        · rename_i q hq
          exact plan_len (hkx q ((pk_mem _ k none hq).resolve_left (by simp)))
        · split
          · rename_i q hq
            exact plan_len (hkx q (wt_mem hq))
          · split
            · rename_i q hq
              exact plan_len (hkx q ((pk_mem _ k none hq).resolve_left (by simp)))
            · simp only [List.length_replicate]; omega
  · simp [pl0]

theorem c13 (n leader b1 b2 : Int) (l : List RP) (hl : l.length * 152 ≤ 140737488351232) (hx : ∀ q, q ∈ l → q.x.ok) : Pure Try.prog 13 [.agg [.lit (.int .i64 n), .lit (.int .i64 leader), vRp l, .lit (.int .i64 b1), .lit (.int .i64 b2)]] (rBool true) := by
  have kw69 := c69 l hl hx
  have kw68 := c68 n leader l hl hx
  have hx2 : ∀ q, q ∈ l.map (setP b1 b2) → q.x.ok := by
    intro q hq
    obtain ⟨r, hr, rfl⟩ := List.mem_map.1 hq
    have h := hx r hr
    exact ⟨h.c, h.d⟩
  have kww69 := c69 (l.map (setP b1 b2)) (by simpa using hl) hx2
  have kww68 := c68 n leader (l.map (setP b1 b2)) (by simpa using hl) hx2
  rw [dc_setP] at kww68
  have hdl := dc_len (n := n) (leader := leader) hx
  generalize dc n leader l = pp at kw68 kww68 hdl
  have kw55 := c55 pp.s pp.s pp.d pp.d hdl
  simp only [beq_self_eq_true, decide_true, Bool.and_self] at kw55
  refine pure_of_body Try.func13 rfl (by simp [Try.f13]) ?_; rw [Try.ntmps13, Try.results13]; intro w0 G0
  (repeat' (first | refine thenL_n ?_ | refine thenL_r ?_ | refine thenL_x ?_ | refine blockL_n ?_ | refine blockL_r ?_ | refine blockL_x ?_ | refine blockL_y rfl ?_ | refine awp_seq ?_ | refine awp_block ?_ | refine awp_ret ?_ | refine awp_exit ?_ | refine awp_skip ?_ | exact absurd hcond (by decide) | (first | (refine awp_txt ?_; refine runs_to [] (by simp only [go_sem]; rfl) ?_) | (refine awp_draw mixed ?_; refine runs_to [] (by simp only [go_sem]; rfl) ?_)) | refine runD_nil ⟨by kernel_rfl, ?_⟩ | refine runD_nil ?_ | (refine runD_call (kw69) cb69 (by rfl) (by simp only [go_sem]; rfl) (by ((repeat' (first | exact All2.nil | refine All2.cons ?_ ?_ | exact SubV.one (SubT.same _) | exact SubV.one (SubT.nil _) | refine SubV.agg ?_ | exact SubT.same _ | exact SubT.nil _)); first | done | fail)) ?_; refine runs_to [] (by simp only [go_sem]; rfl) ?_) | (refine runD_call (kw68) cb68 (by rfl) (by simp only [go_sem]; rfl) (by ((repeat' (first | exact All2.nil | refine All2.cons ?_ ?_ | exact SubV.one (SubT.same _) | exact SubV.one (SubT.nil _) | refine SubV.agg ?_ | exact SubT.same _ | exact SubT.nil _)); first | done | fail)) ?_; refine runs_to [] (by simp only [go_sem]; rfl) ?_) | (refine awp_cond (b := _) (by simp only [go_sem, evB]; rfl) (fun hcond => ?_) (fun hcond => ?_))))
  refine awp_loop (fun i : Nat => [(.slot 3, sI n), (.slot 4, sI leader), (.slot 6, sP 6), (.cell 6 0, .c (lI b1)), (.cell 6 1, .c (lI b2)), (.slot 7, sP 7), (.cell 7 0, .c (lI pp.kd)), (.cell 7 1, .c (lI pp.k)), (.cell 7 2, .c (.t (.lit (.string pp.h)))), (.cell 7 3, .c (.t (vBy pp.c))), (.cell 7 4, .c (lI pp.s)), (.cell 7 5, .c (.t (vInts pp.d))), (.slot 8, sR 40), (.vec 40, .r 14 127 (((l.take i).map (setP b1 b2)).map rpL)), (.slot 25, sT (vRp l)), (.slot 26, sI l.length), (.slot 27, sI i)]) (fun i => i ≤ l.length) (fun i => l.length - i) 0 (Nat.zero_le _) (Imp.trans (Imp.adopt 8 40 14 127 (by simp only [go_sem]) (by decide) (by simp only [go_sem])) (by refine Imp.of_in ?_; simp only [go_sem, List.map_nil, List.take_zero, Int.natCast_zero])) ?_
  intro i hi
  by_cases hlt : (i : Int) < l.length
  · have hil : i < l.length := by omega
    have hxi : l[i]? = some l[i] := List.getElem?_eq_getElem hil
    have hts : l.take (i + 1) = l.take i ++ [l[i]] := List.take_succ_eq_append_getElem hil
    generalize l[i] = q at hxi hts
    have hw := up i (by omega)
    have hn : (l.take (i + 1)).map (setP b1 b2) = (l.take i).map (setP b1 b2) ++ [setP b1 b2 q] := by rw [hts]; simp
    have hc0 : ((l.take i).map (setP b1 b2)).length ≤ i := by rw [List.length_map, List.length_take]; omega
    generalize (l.take i).map (setP b1 b2) = z at hn hc0
    have hc1 : z.length + 1 ≤ 140737488355328 := by omega
    have hc2 : (z.length + 1) * 152 ≤ 140737488355328 := by omega
    have hmap : List.map rpL (z ++ [setP b1 b2 q]) = List.map rpL z ++ [rpL (setP b1 b2 q)] := by simp
    simp only [rpL, vBy, vInts, setP] at hmap
    simp only [setP] at hn
    (repeat' (first | refine thenL_n ?_ | refine thenL_r ?_ | refine thenL_x ?_ | refine blockL_n ?_ | refine blockL_r ?_ | refine blockL_x ?_ | refine blockL_y rfl ?_ | refine awp_seq ?_ | refine awp_block ?_ | refine awp_ret ?_ | refine awp_exit ?_ | refine awp_skip ?_ | exact absurd hcond (by decide) | (first | (refine awp_txt ?_; refine runs_to [] (by simp only [go_sem, hlt, hil, hxi, hw, hc1, hc2]; rfl) ?_) | (refine awp_draw mixed ?_; refine runs_to [] (by simp only [go_sem, hlt, hil, hxi, hw, hc1, hc2]; rfl) ?_)) | refine runD_nil ⟨by kernel_rfl, ?_⟩ | refine runD_nil ?_ | (refine awp_cond (b := _) (by simp only [go_sem, evB, hlt, hil, hxi, hw, hc1, hc2]; rfl) (fun hcond => ?_) (fun hcond => ?_))))
    exact ⟨i + 1, by omega, by omega, (by refine Imp.back 37 40 (by simp only [go_sem, renL, Loc.ren, Cont.ren, SV.ren, V1.ren, At.ren,  hn, hmap]) (by simp only [go_sem, renL, Loc.ren, Cont.ren, SV.ren, V1.ren, At.ren,  hn, hmap]) (by simp only [go_sem, renL, Loc.ren, Cont.ren, SV.ren, V1.ren, At.ren,  hn, hmap]) (by decide) (by decide) ?_; refine Imp.of_in ?_; simp only [go_sem, renL, Loc.ren, Cont.ren, SV.ren, V1.ren, At.ren,  hn, hmap])⟩
  · have hta : l.take i = l := by rw [show i = l.length by omega, List.take_length]
    rw [hta]
    refine awp_imp (Imp.freezeE 40 (by simp only [go_sem, fixL, Cont.fix, SV.fix, V1.fix, At.fix, cellsT, renL, Loc.ren, Cont.ren, SV.ren, V1.ren, At.ren, freezeL]; rfl) (by simp only [go_sem, fixL, Cont.fix, SV.fix, V1.fix, At.fix, cellsT, renL, Loc.ren, Cont.ren, SV.ren, V1.ren, At.ren, freezeL]; rfl)) ?_
    ((repeat' (first | refine thenL_n ?_ | refine thenL_r ?_ | refine thenL_x ?_ | refine blockL_n ?_ | refine blockL_r ?_ | refine blockL_x ?_ | refine blockL_y rfl ?_ | refine awp_seq ?_ | refine awp_block ?_ | refine awp_ret ?_ | refine awp_exit ?_ | refine awp_skip ?_ | exact absurd hcond (by decide) | (first | (refine awp_txt ?_; refine runs_to [] (by simp only [go_sem, hlt]; rfl) ?_) | (refine awp_draw mixed ?_; refine runs_to [] (by simp only [go_sem, hlt]; rfl) ?_)) | refine runD_nil ⟨by kernel_rfl, ?_⟩ | refine runD_nil ?_ | (refine runD_call (kww69) cb69 (by rfl) (by simp only [go_sem, hlt]; rfl) (by ((repeat' (first | exact All2.nil | refine All2.cons ?_ ?_ | exact SubV.one (SubT.same _) | exact SubV.one (SubT.nil _) | refine SubV.agg ?_ | exact SubT.same _ | exact SubT.nil _)); first | done | fail)) ?_; refine runs_to [] (by simp only [go_sem, hlt]; rfl) ?_) | (refine runD_call (kww68) cb68 (by rfl) (by simp only [go_sem, hlt]; rfl) (by ((repeat' (first | exact All2.nil | refine All2.cons ?_ ?_ | exact SubV.one (SubT.same _) | exact SubV.one (SubT.nil _) | refine SubV.agg ?_ | exact SubT.same _ | exact SubT.nil _)); first | done | fail)) ?_; refine runs_to [] (by simp only [go_sem, hlt]; rfl) ?_) | (refine runD_call (c70 _ _ _) cb70 (by rfl) (by simp only [go_sem, hlt]; rfl) (by ((repeat' (first | exact All2.nil | refine All2.cons ?_ ?_ | exact SubV.one (SubT.same _) | exact SubV.one (SubT.nil _) | refine SubV.agg ?_ | exact SubT.same _ | exact SubT.nil _)); first | done | fail)) ?_; refine runs_to [] (by simp only [go_sem, hlt]; rfl) ?_) | (refine runD_call (c71 _ _) cb71 (by rfl) (by simp only [go_sem, hlt]; rfl) (by ((repeat' (first | exact All2.nil | refine All2.cons ?_ ?_ | exact SubV.one (SubT.same _) | exact SubV.one (SubT.nil _) | refine SubV.agg ?_ | exact SubT.same _ | exact SubT.nil _)); first | done | fail)) ?_; refine runs_to [] (by simp only [go_sem, hlt]; rfl) ?_) | (refine runD_call (kw55) cb55 (by rfl) (by simp only [go_sem, hlt]; rfl) (by ((repeat' (first | exact All2.nil | refine All2.cons ?_ ?_ | exact SubV.one (SubT.same _) | exact SubV.one (SubT.nil _) | refine SubV.agg ?_ | exact SubT.same _ | exact SubT.nil _)); first | done | fail)) ?_; refine runs_to [] (by simp only [go_sem, hlt]; rfl) ?_) | (refine runD_call (c72) cb72 (by rfl) (by simp only [go_sem, hlt]; rfl) (by ((repeat' (first | exact All2.nil | refine All2.cons ?_ ?_ | exact SubV.one (SubT.same _) | exact SubV.one (SubT.nil _) | refine SubV.agg ?_ | exact SubT.same _ | exact SubT.nil _)); first | done | fail)) ?_; refine runs_to [] (by simp only [go_sem, hlt]; rfl) ?_) | (refine awp_cond (b := _) (by simp only [go_sem, evB, hlt]; rfl) (fun hcond => ?_) (fun hcond => ?_)))); all_goals (refine leaves_ok (by first | exact Or.inl rfl | exact Or.inr rfl) (by simp only [go_sem, resAll, resL, packL, vecsOf, freezeAll, freezeL, hlt]; rfl) ?_; (first | refine SubR.v ?_ | refine SubR.tup ?_); ((repeat' (first | exact All2.nil | refine All2.cons ?_ ?_ | exact SubV.one (SubT.same _) | exact SubV.one (SubT.nil _) | refine SubV.agg ?_ | exact SubT.same _ | exact SubT.nil _)); first | done | fail)))
end Go.Proofs.Ytbohgpdpglfepaa
