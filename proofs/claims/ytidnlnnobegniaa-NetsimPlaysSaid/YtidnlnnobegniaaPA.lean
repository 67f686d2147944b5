import Derived.Test.YtidnlnnobegniaaN15
import Derived.Test.YtidnlnnobegniaaMB
set_option maxHeartbeats 4000000
set_option maxRecDepth 10000
set_option linter.unusedVariables false
set_option linter.unusedSimpArgs false
namespace Go.Proofs.Ytidnlnnobegniaa
open Go.AM Go.RowKit
attribute [local irreducible] AWP thenL blockL AM.Leaves LeavesO RunD
attribute [local go_sem] act0 actN actX actFieldM actIndexM actLoadM actStoreM actAllocM actBoxM actBuildM actSliceM actRange
  actEntry actDelB bigT bigOp offHole sizeM keyC actMakeMap actLookup actMapEntry actEntryStore actMapUpdate
  actDelete actClear actLen2 actIndex2 actLoad2 actOne actApp2 actCall2 actMark isZI isZS isOwn
  QHole.at holeB runs stepR actF inF frzA frzW lastW act act1 actPick
  actNil actBin actUn actConv actExtract actFieldAddr actField actAlloc keysOf actBox actLoad treesOf
  actStore actIndex actLen actMx srcL actAppend actMake actBuild actBuildSlice boundL actSlice actCall
  actEqS isStruct isSlice actText actCopy litsOf kindsOK fieldsPlain eqAll eqop dstB dstN
  boolS litB litV sv binv unv lits takeC cellsR trees cellsW mxv
  repl parts fillAt fillRows V1.cs mkV ev evr AM.look put del applyL
  delD wrD undefS SV.to V1.to At.to keysL notIn freshKey PV.up PR.up entry
  entryV evp isAt actPtrNil capsL actFunc sameV sameVs pureCtx doc mkVar AM.Loc.key
  Cont.keys SV.keys V1.keys At.keys Cont.sub SV.sub V1.sub At.sub guardR argsL callR eq_self
  Nat.blt_eq Nat.blt Nat.ble Nat.beq_eq_true_eq beq_self_eq_true Array.toList List.map List.append_eq List.nil_append List.cons_append List.append_nil List.append_assoc
  Bool.and_eq_true decide_true decide_false decide_eq_true_eq Bool.not_true Bool.not_false reduceCtorEq if_true if_false ite_true ite_false reduceIte
  AM.Loc.slot.injEq AM.Loc.cell.injEq AM.Loc.vec.injEq List.getElem?_cons_zero List.getElem?_cons_succ List.getElem?_nil Option.map_some Option.map_none Option.toList List.flatMap_nil List.flatMap_cons Bool.and_true
  Bool.true_and Bool.and_false Bool.false_and Bool.true_eq_false Bool.false_eq_true Nat.reduceBEq Nat.reduceEqDiff bool_beq_tt bool_beq_ff bool_beq_tf bool_beq_ft List.length_cons
  List.length_nil List.drop List.take List.drop_zero List.take_zero List.all_cons List.all_nil Value.oneCell' Nat.zero_add Nat.reduceAdd Nat.reduceMul Nat.reduceSub
  Nat.reduceLT Nat.reduceLeDiff Int.reduceLT Int.reduceLE Int.reduceEq Int.reduceBEq Int.reduceBNe Int.reduceAdd Int.reduceSub Int.reduceMul Int.reduceNeg Int.reduceToNat
  Nat.succ_ne_zero List.replicate and_true true_and and_false false_and and_self ge_iff_le gt_iff_lt bne_self_eq_false List.zip_cons_cons List.zip_nil_left
  List.zip List.zipWith Int.natCast_nonneg Int.toNat_natCast List.getElem?_map List.length_map sT sI sB sR sP rV
  AllIn Int.toNat_zero Int.ofNat_zero Int.natCast_zero Nat.le_refl List.mapM_cons List.mapM_nil Option.bind_eq_bind Option.bind_some Option.bind_none Option.pure_def List.set_cons_zero
  List.set_cons_succ List.length_set cellsF_length cellsF_lit putF_one tt2 tt3 tt4 tt5 tt9 tt12 tt21
  tt22 tt23 tt24 tt30 tt39 tt40 tt41 tt42 tt43 tt44 tt45 tt49
  tt59 tt60 tt61 tt62 tt63 tt66 tt67 tt70 tt94 tt98 mo60 mo61
  mg22 mg3 zz22 zz3 bi50 bi51 bi52 bi54 im60 ho54
attribute [local go_sem] vlit rInt rBool vInts pInts vBy vvBy lI lB nK lN rB

/-- The first place of a number. -/
def ixF : List Int → Int → Nat → Int
  | [], _, _ => -1
  | x :: xs, a, k => if a = x then k else ixF xs a (k + 1)
theorem ixF_hit (a : Int) : ∀ (xs : List Int) (i k : Nat), (∀ j, j < i → xs[j]? ≠ some a) → xs[i]? = some a → ixF xs a k = ((k + i : Nat) : Int)
  | [], i, k, _, h => by simp at h
  | x :: xs, 0, k, _, h => by simp at h; subst h; simp [ixF]
  | x :: xs, i + 1, k, hn, h => by
    have h0 := hn 0 (by omega)
    have hne : ¬ a = x := by intro e; subst e; simp at h0
    rw [ixF, if_neg hne, ixF_hit a xs i (k + 1) (fun j hj => by have := hn (j + 1) (by omega); simpa using this) (by simpa using h)]
    congr 1; omega
theorem ixF_miss (a : Int) : ∀ (xs : List Int) (k : Nat), a ∉ xs → ixF xs a k = -1
  | [], k, _ => rfl
  | x :: xs, k, h => by
    simp only [List.mem_cons, not_or] at h
    rw [ixF, if_neg h.1, ixF_miss a xs (k + 1) h.2]
theorem ixF_nonneg (a : Int) : ∀ (xs : List Int) (k : Nat), a ∈ xs → 0 ≤ ixF xs a k
  | [], k, h => by simp at h
  | x :: xs, k, h => by
    rw [ixF]
    split
    · omega
    · rename_i hne
      exact ixF_nonneg a xs (k + 1) (by simpa [hne] using h)

theorem c47 (xs : List Int) (a : Int) (hl : xs.length ≤ 4611686018427387903) : Pure Try.prog 47 [pInts xs, vlit (.int .i64 a)] (rInt (ixF xs a 0)) := by
  refine pure_of_body Try.func47 rfl (by simp [Try.f47]) ?_; rw [Try.ntmps47, Try.results47]; intro w0 G0
  (repeat' (first | refine thenL_n ?_ | refine thenL_r ?_ | refine thenL_x ?_ | refine blockL_n ?_ | refine blockL_r ?_ | refine blockL_x ?_ | refine blockL_y rfl ?_ | refine awp_seq ?_ | refine awp_block ?_ | refine awp_ret ?_ | refine awp_exit ?_ | refine awp_skip ?_ | exact absurd hcond (by decide) | (first | (refine awp_txt ?_; refine runs_to [] (by simp only [go_sem]; rfl) ?_) | (refine awp_draw mixed ?_; refine runs_to [] (by simp only [go_sem]; rfl) ?_)) | refine runD_nil ⟨by kernel_rfl, ?_⟩ | refine runD_nil ?_ | (refine awp_cond (b := _) (by simp only [go_sem, evB]; rfl) (fun hcond => ?_) (fun hcond => ?_))))
  refine awp_loop (fun i : Nat => [(.slot 0, sT (vInts xs)), (.slot 1, sI a), (.slot 7, sI xs.length), (.slot 8, sI i)]) (fun i => i ≤ xs.length ∧ ∀ j, j < i → xs[j]? ≠ some a) (fun i => xs.length - i) 0 ⟨Nat.zero_le _, by omega⟩ (by refine Imp.of_in ?_; simp only [go_sem]) ?_
  intro i hi
  obtain ⟨hi, hall⟩ := hi
  by_cases hlt : (i : Int) < xs.length
  · have hx : xs[i]? = some xs[i] := List.getElem?_eq_getElem (by omega)
    have hw := up i (by omega)
    by_cases he : (a == xs[i]) = true
    · have hv : ixF xs a 0 = (i : Int) := by
        rw [ixF_hit a xs i 0 hall (by rw [hx]; simp at he; rw [he])]; simp
      rw [hv]
      ((repeat' (first | refine thenL_n ?_ | refine thenL_r ?_ | refine thenL_x ?_ | refine blockL_n ?_ | refine blockL_r ?_ | refine blockL_x ?_ | refine blockL_y rfl ?_ | refine awp_seq ?_ | refine awp_block ?_ | refine awp_ret ?_ | refine awp_exit ?_ | refine awp_skip ?_ | exact absurd hcond (by decide) | (first | (refine awp_txt ?_; refine runs_to [] (by simp only [go_sem, hlt, hx, he]; rfl) ?_) | (refine awp_draw mixed ?_; refine runs_to [] (by simp only [go_sem, hlt, hx, he]; rfl) ?_)) | refine runD_nil ⟨by kernel_rfl, ?_⟩ | refine runD_nil ?_ | (refine awp_cond (b := _) (by simp only [go_sem, evB, hlt, hx, he]; rfl) (fun hcond => ?_) (fun hcond => ?_)))); all_goals (refine leaves_ok (by first | exact Or.inl rfl | exact Or.inr rfl) (by simp only [go_sem, resAll, resL, packL, vecsOf, freezeAll, freezeL, hlt, hx, he]; rfl) ?_; (first | refine SubR.v ?_ | refine SubR.tup ?_); ((repeat' (first | exact All2.nil | refine All2.cons ?_ ?_ | exact SubV.one (SubT.same _) | exact SubV.one (SubT.nil _) | refine SubV.agg ?_ | exact SubT.same _ | exact SubT.nil _)); first | done | fail)))
    · have he : (a == xs[i]) = false := by simpa using he
      (repeat' (first | refine thenL_n ?_ | refine thenL_r ?_ | refine thenL_x ?_ | refine blockL_n ?_ | refine blockL_r ?_ | refine blockL_x ?_ | refine blockL_y rfl ?_ | refine awp_seq ?_ | refine awp_block ?_ | refine awp_ret ?_ | refine awp_exit ?_ | refine awp_skip ?_ | exact absurd hcond (by decide) | (first | (refine awp_txt ?_; refine runs_to [] (by simp only [go_sem, hlt, hx, he, hw]; rfl) ?_) | (refine awp_draw mixed ?_; refine runs_to [] (by simp only [go_sem, hlt, hx, he, hw]; rfl) ?_)) | refine runD_nil ⟨by kernel_rfl, ?_⟩ | refine runD_nil ?_ | (refine awp_cond (b := _) (by simp only [go_sem, evB, hlt, hx, he, hw]; rfl) (fun hcond => ?_) (fun hcond => ?_))))
      refine ⟨i + 1, ⟨by omega, fun j hj => ?_⟩, by omega, (by refine Imp.of_in ?_; simp only [go_sem])⟩
      by_cases hji : j = i
      · subst hji; rw [hx]; simp at he ⊢; exact fun h => he h.symm
      · exact hall j (by omega)
  · have hv : ixF xs a 0 = -1 := ixF_miss a xs 0 fun h => by
      obtain ⟨j, hj⟩ := List.mem_iff_getElem?.1 h
      have := (List.getElem?_eq_some_iff.1 hj).1
      exact hall j (by omega) hj
    rw [hv]
    ((repeat' (first | refine thenL_n ?_ | refine thenL_r ?_ | refine thenL_x ?_ | refine blockL_n ?_ | refine blockL_r ?_ | refine blockL_x ?_ | refine blockL_y rfl ?_ | refine awp_seq ?_ | refine awp_block ?_ | refine awp_ret ?_ | refine awp_exit ?_ | refine awp_skip ?_ | exact absurd hcond (by decide) | (first | (refine awp_txt ?_; refine runs_to [] (by simp only [go_sem, hlt]; rfl) ?_) | (refine awp_draw mixed ?_; refine runs_to [] (by simp only [go_sem, hlt]; rfl) ?_)) | refine runD_nil ⟨by kernel_rfl, ?_⟩ | refine runD_nil ?_ | (refine awp_cond (b := _) (by simp only [go_sem, evB, hlt]; rfl) (fun hcond => ?_) (fun hcond => ?_)))); all_goals (refine leaves_ok (by first | exact Or.inl rfl | exact Or.inr rfl) (by simp only [go_sem, resAll, resL, packL, vecsOf, freezeAll, freezeL, hlt]; rfl) ?_; (first | refine SubR.v ?_ | refine SubR.tup ?_); ((repeat' (first | exact All2.nil | refine All2.cons ?_ ?_ | exact SubV.one (SubT.same _) | exact SubV.one (SubT.nil _) | refine SubV.agg ?_ | exact SubT.same _ | exact SubT.nil _)); first | done | fail)))

theorem c44 (xs : List Int) (a : Int) (hl : xs.length ≤ 4611686018427387903) : Pure Try.prog 44 [pInts xs, vlit (.int .i64 a)] (rBool (decide (a ∈ xs))) := by
  have hf : decide (a ∈ xs) = decide (0 ≤ ixF xs a 0) := by
    by_cases h : a ∈ xs
    · simp [h, ixF_nonneg a xs 0 h]
    · simp [h, ixF_miss a xs 0 h]
  rw [hf]
  refine pure_of_body Try.func44 rfl (by simp [Try.f44]) ?_; rw [Try.ntmps44, Try.results44]; intro w0 G0
  ((repeat' (first | refine thenL_n ?_ | refine thenL_r ?_ | refine thenL_x ?_ | refine blockL_n ?_ | refine blockL_r ?_ | refine blockL_x ?_ | refine blockL_y rfl ?_ | refine awp_seq ?_ | refine awp_block ?_ | refine awp_ret ?_ | refine awp_exit ?_ | refine awp_skip ?_ | exact absurd hcond (by decide) | (first | (refine awp_txt ?_; refine runs_to [] (by simp only [go_sem]; rfl) ?_) | (refine awp_draw mixed ?_; refine runs_to [] (by simp only [go_sem]; rfl) ?_)) | refine runD_nil ⟨by kernel_rfl, ?_⟩ | refine runD_nil ?_ | (refine runD_call (c47 xs a hl) cb47 (by rfl) (by simp only [go_sem]; rfl) (by ((repeat' (first | exact All2.nil | refine All2.cons ?_ ?_ | exact SubV.one (SubT.same _) | exact SubV.one (SubT.nil _) | refine SubV.agg ?_ | exact SubT.same _ | exact SubT.nil _)); first | done | fail)) ?_; refine runs_to [] (by simp only [go_sem]; rfl) ?_) | (refine awp_cond (b := _) (by simp only [go_sem, evB]; rfl) (fun hcond => ?_) (fun hcond => ?_)))); all_goals (refine leaves_ok (by first | exact Or.inl rfl | exact Or.inr rfl) (by simp only [go_sem, resAll, resL, packL, vecsOf, freezeAll, freezeL]; rfl) ?_; (first | refine SubR.v ?_ | refine SubR.tup ?_); ((repeat' (first | exact All2.nil | refine All2.cons ?_ ?_ | exact SubV.one (SubT.same _) | exact SubV.one (SubT.nil _) | refine SubV.agg ?_ | exact SubT.same _ | exact SubT.nil _)); first | done | fail)))
theorem o34 (a : List Int) (h : a.length * 8 ≤ 140737488351232) : Own Try.prog 34 [pInts a] (.v (.one (.row 0))) 1 3 (a.map fun n => [.lit (.int .i64 n)]) := by
  have hl1 : ((a.length : Nat) : Int) ≤ 140737488355328 := by omega
  have hl2 : ((a.length : Nat) : Int) * ((8 : Nat) : Int) ≤ 281474976710656 := by omega
  refine own_of_body Try.func34 rfl (by simp [Try.f34]) ?_; rw [Try.ntmps34, Try.results34]; intro w0 G0
  (repeat' (first | refine thenL_n ?_ | refine thenL_r ?_ | refine thenL_x ?_ | refine blockL_n ?_ | refine blockL_r ?_ | refine blockL_x ?_ | refine blockL_y rfl ?_ | refine awp_seq ?_ | refine awp_block ?_ | refine awp_ret ?_ | refine awp_exit ?_ | refine awp_skip ?_ | exact absurd hcond (by decide) | (first | (refine awp_txt ?_; refine runs_to [] (by simp only [go_sem, hl1, hl2, List.length_replicate]; rfl) ?_) | (refine awp_draw mixed ?_; refine runs_to [] (by simp only [go_sem, hl1, hl2, List.length_replicate]; rfl) ?_)) | refine runD_nil ⟨by kernel_rfl, ?_⟩ | refine runD_nil ?_ | (refine awp_cond (b := _) (by simp only [go_sem, evB, hl1, hl2, List.length_replicate]; rfl) (fun hcond => ?_) (fun hcond => ?_))))
  refine leavesO_ok 6 (by first | exact Or.inl rfl | exact Or.inr rfl) (by simp only [go_sem,  ] <;> rfl) (by simp only [go_sem, resAll, resL,  ]; rfl) (by simp only [go_sem, packL, SV.to, V1.to, At.to,  ])

theorem c34 (a : List Int) (h : a.length * 8 ≤ 140737488351232) : Pure Try.prog 34 [pInts a] (.v (pInts a)) := pure_of_own (o34 a h) (.v (.one (.same _)))

theorem o45 (xs : List Int) (h0 : xs ≠ []) (hl : xs.length ≤ 1000000) : Own Try.prog 45 [pInts xs] (.v (.one (.row 0))) 1 3 (xs.map fun n => [.lit (.int .i64 n)]) := by
  have hl1 : xs.length ≤ 140737488355328 := by omega
  have hl2 : xs.length * 8 ≤ 140737488355328 := by omega
  refine own_of_slice Try.func45 rfl (by simp [Try.f45]) (fun h => (h0 (by simpa using h)).elim) ?_
  rw [Try.ntmps45, Try.results45]
  intro w0 G0 ad n cp hv
  refine awp_seq ?_
  refine awp_txt ?_
  refine runs_to [] (by simp only [go_sem]; rfl) ?_
  refine runD_nil ?_
  refine thenL_n ?_
  refine awp_seq ?_
  refine awp_seq ?_
  refine awp_txt ?_
  refine runs_to [] (by simp only [go_sem, Option.isNone, Bool.or_true, Bool.or_false]; rfl) ?_
  refine runD_nil ?_
  refine thenL_n ?_
  (refine awp_cond (b := _) (by simp only [go_sem, evB]; rfl) (fun hcond => ?_) (fun hcond => ?_))
  · exact absurd hcond (by decide)
  refine awp_skip ?_
  refine thenL_n ?_
  refine awp_imp (Imp.lift 0 hv rfl) ?_
  (repeat' (first | refine thenL_n ?_ | refine thenL_r ?_ | refine thenL_x ?_ | refine blockL_n ?_ | refine blockL_r ?_ | refine blockL_x ?_ | refine blockL_y rfl ?_ | refine awp_seq ?_ | refine awp_block ?_ | refine awp_ret ?_ | refine awp_exit ?_ | refine awp_skip ?_ | exact absurd hcond (by decide) | (first | (refine awp_txt ?_; refine runs_to [] (by simp only [go_sem, hl1, hl2]; rfl) ?_) | (refine awp_draw mixed ?_; refine runs_to [] (by simp only [go_sem, hl1, hl2]; rfl) ?_)) | refine runD_nil ⟨by kernel_rfl, ?_⟩ | refine runD_nil ?_ | (refine awp_cond (b := _) (by simp only [go_sem, evB, hl1, hl2]; rfl) (fun hcond => ?_) (fun hcond => ?_))))
  refine leavesO_ok 7 (by first | exact Or.inl rfl | exact Or.inr rfl) (by simp only [go_sem] <;> rfl) (by simp only [go_sem, resAll, resL]; rfl) (by simp only [go_sem, packL, SV.to, V1.to, At.to])
end Go.Proofs.Ytidnlnnobegniaa
set_option maxHeartbeats 4000000
set_option maxRecDepth 10000
set_option linter.unusedVariables false
set_option linter.unusedSimpArgs false
namespace Go.Proofs.Ytidnlnnobegniaa
open Go.AM Go.RowKit
attribute [local irreducible] AWP thenL blockL AM.Leaves LeavesO RunD
attribute [local go_sem] act0 actN actX actFieldM actIndexM actLoadM actStoreM actAllocM actBoxM actBuildM actSliceM actRange
  actEntry actDelB bigT bigOp offHole sizeM keyC actMakeMap actLookup actMapEntry actEntryStore actMapUpdate
  actDelete actClear actLen2 actIndex2 actLoad2 actOne actApp2 actCall2 actMark isZI isZS isOwn
  QHole.at holeB runs stepR actF inF frzA frzW lastW act act1 actPick
  actNil actBin actUn actConv actExtract actFieldAddr actField actAlloc keysOf actBox actLoad treesOf
  actStore actIndex actLen actMx srcL actAppend actMake actBuild actBuildSlice boundL actSlice actCall
  actEqS isStruct isSlice actText actCopy litsOf kindsOK fieldsPlain eqAll eqop dstB dstN
  boolS litB litV sv binv unv lits takeC cellsR trees cellsW mxv
  repl parts fillAt fillRows V1.cs mkV ev evr AM.look put del applyL
  delD wrD undefS SV.to V1.to At.to keysL notIn freshKey PV.up PR.up entry
  entryV evp isAt actPtrNil capsL actFunc sameV sameVs pureCtx doc mkVar AM.Loc.key
  Cont.keys SV.keys V1.keys At.keys Cont.sub SV.sub V1.sub At.sub guardR argsL callR eq_self
  Nat.blt_eq Nat.blt Nat.ble Nat.beq_eq_true_eq beq_self_eq_true Array.toList List.map List.append_eq List.nil_append List.cons_append List.append_nil List.append_assoc
  Bool.and_eq_true decide_true decide_false decide_eq_true_eq Bool.not_true Bool.not_false reduceCtorEq if_true if_false ite_true ite_false reduceIte
  AM.Loc.slot.injEq AM.Loc.cell.injEq AM.Loc.vec.injEq List.getElem?_cons_zero List.getElem?_cons_succ List.getElem?_nil Option.map_some Option.map_none Option.toList List.flatMap_nil List.flatMap_cons Bool.and_true
  Bool.true_and Bool.and_false Bool.false_and Bool.true_eq_false Bool.false_eq_true Nat.reduceBEq Nat.reduceEqDiff bool_beq_tt bool_beq_ff bool_beq_tf bool_beq_ft List.length_cons
  List.length_nil List.drop List.take List.drop_zero List.take_zero List.all_cons List.all_nil Value.oneCell' Nat.zero_add Nat.reduceAdd Nat.reduceMul Nat.reduceSub
  Nat.reduceLT Nat.reduceLeDiff Int.reduceLT Int.reduceLE Int.reduceEq Int.reduceBEq Int.reduceBNe Int.reduceAdd Int.reduceSub Int.reduceMul Int.reduceNeg Int.reduceToNat
  Nat.succ_ne_zero List.replicate and_true true_and and_false false_and and_self ge_iff_le gt_iff_lt bne_self_eq_false List.zip_cons_cons List.zip_nil_left
  List.zip List.zipWith Int.natCast_nonneg Int.toNat_natCast List.getElem?_map List.length_map sT sI sB sR sP rV
  AllIn Int.toNat_zero Int.ofNat_zero Int.natCast_zero Nat.le_refl List.mapM_cons List.mapM_nil Option.bind_eq_bind Option.bind_some Option.bind_none Option.pure_def List.set_cons_zero
  List.set_cons_succ List.length_set cellsF_length cellsF_lit putF_one tt2 tt3 tt4 tt5 tt9 tt12 tt21
  tt22 tt23 tt24 tt30 tt39 tt40 tt41 tt42 tt43 tt44 tt45 tt49
  tt59 tt60 tt61 tt62 tt63 tt66 tt67 tt70 tt94 tt98 mo60 mo61
  mg22 mg3 zz22 zz3 bi50 bi51 bi52 bi54 im60 ho54
attribute [local go_sem] vlit rInt rBool vInts pInts vBy vvBy lI lB nK lN rB

/-- Clocks as they may stand. -/
def okC (cs : List Int) : Prop := ∀ c, c ∈ cs → 0 ≤ c ∧ c ≤ 1099511627776
/-- Clocks go on, one node after the other. -/
def advL (t : Int) : List Int → List Int → Option (List Int)
  | cs, [] => some cs
  | cs, n :: ns => if 1099511627776 - cs.getD n.toNat 0 < t then none else advL t (cs.set n.toNat (cs.getD n.toNat 0 + t)) ns
def advR (cs : List Int) (t : Int) (ns : List Int) : Int × List Int :=
  if ns.any (badN cs.length) = true then (60, cs) else if t < 0 then (63, cs) else match advL t cs ns with
    | none => (63, cs)
    | some cs' => (0, cs')

theorem advL_len {t : Int} : ∀ {ns cs cs' : List Int}, advL t cs ns = some cs' → cs'.length = cs.length
  | [], cs, cs', h => by simp [advL] at h; rw [h]
  | n :: ns, cs, cs', h => by
    rw [advL] at h
    split at h
    · simp at h
    · rw [advL_len h, List.length_set]
theorem okC_set {cs : List Int} {q : Nat} {x : Int} (h : okC cs) (hx : 0 ≤ x ∧ x ≤ 1099511627776) : okC (cs.set q x) := by
  intro c hc
  rcases List.mem_or_eq_of_mem_set hc with h1 | h1
  · exact h c h1
  · rw [h1]; exact hx
theorem okC_get {cs : List Int} (h : okC cs) (q : Nat) : 0 ≤ cs.getD q 0 ∧ cs.getD q 0 ≤ 1099511627776 := by
  rw [List.getD_eq_getElem?_getD]
  cases hq : cs[q]? with
  | none => simp
  | some c => exact h c (List.mem_of_getElem? hq)
theorem advL_ok {t : Int} (ht : 0 ≤ t) : ∀ {ns cs cs' : List Int}, okC cs → advL t cs ns = some cs' → okC cs'
  | [], cs, cs', hc, h => by simp [advL] at h; rw [← h]; exact hc
  | n :: ns, cs, cs', hc, h => by
    rw [advL] at h
    split at h
    · simp at h
    · rename_i h1
      have := okC_get hc n.toNat
      exact advL_ok ht (okC_set hc (by omega)) h
theorem advR_len {cs : List Int} {t : Int} {ns : List Int} : (advR cs t ns).2.length = cs.length := by
  unfold advR
  split
  · rfl
  split
  · rfl
  split
  · rfl
  · rename_i h; exact advL_len h
theorem advR_ok {cs : List Int} {t : Int} {ns : List Int} (h : okC cs) : okC (advR cs t ns).2 := by
  unfold advR
  split
  · exact h
  split
  · exact h
  split
  · exact h
  · rename_i h2 _ _ h3; exact advL_ok (by omega) h h3

theorem mapSet (cs : List Int) (q : Nat) (x : Int) : (cs.map fun n => [T.lit (.int .i64 n)]).set q [T.lit (.int .i64 x)] = (cs.set q x).map fun n => [T.lit (.int .i64 n)] := by
  rw [List.map_set]

theorem s36 (cs : List Int) (t : Int) (ns : List Int) (h1 : 1 ≤ cs.length) (h2 : cs.length ≤ 32) (hc : okC cs) (hl : ns.length ≤ 4611686018427387903) :
    Does Try.prog 36 [.one (.row 100000), .one (lI t), .one (.t (vInts ns))] [(.vec 100000, rV 3 cs)] (.v (.one (lI (advR cs t ns).1))) [(.vec 100000, rV 3 (advR cs t ns).2)] := by
  have kw23 := c23 cs ns hl
  by_cases hb : ns.any (badN cs.length) = true
  · have e : ckR cs.length ns = 60 := by simp [ckR, hb]
    rw [e] at kw23
    have e2 : advR cs t ns = (60, cs) := by simp [advR, hb]
    rw [e2]
    refine does_of_body Try.func36 rfl (by simp [Try.f36]) rfl rfl ?_; rw [Try.ntmps36, Try.results36]; intro w0 G0 ρ0
    ((repeat' (first | refine thenL_n ?_ | refine thenL_r ?_ | refine thenL_x ?_ | refine blockL_n ?_ | refine blockL_r ?_ | refine blockL_x ?_ | refine blockL_y rfl ?_ | refine awp_seq ?_ | refine awp_block ?_ | refine awp_ret ?_ | refine awp_exit ?_ | refine awp_skip ?_ | exact absurd hcond (by decide) | (first | (refine awp_txt ?_; refine runs_to [] (by simp only [go_sem]; rfl) ?_) | (refine awp_draw mixed ?_; refine runs_to [] (by simp only [go_sem]; rfl) ?_)) | refine runD_nil ⟨by kernel_rfl, ?_⟩ | refine runD_nil ?_ | (refine runD_lend (kw23) cb23 (by rfl) (.inl (by simp only [go_sem]; rfl)) (by simp only [go_sem, lendL, lendV, lendA, lendAs]; rfl) (by ((repeat' (first | exact All2.nil | refine All2.cons ?_ ?_ | exact SubV.one (SubT.same _) | exact SubV.one (SubT.nil _) | refine SubV.agg ?_ | exact SubT.same _ | exact SubT.nil _)); first | done | fail)) (by rfl) ?_; refine runs_to [] (by simp only [go_sem]; rfl) ?_) | (refine awp_cond (b := _) (by simp only [go_sem, evB]; rfl) (fun hcond => ?_) (fun hcond => ?_)))); all_goals (refine leavesD_ok (by first | exact Or.inl rfl | exact Or.inr rfl) (Imp.refl _) (by simp only [go_sem, resAll, resL]; rfl) (by simp only [packL]; (first | refine SubS.v ?_ | refine SubS.tup ?_); ((repeat' (first | exact All2.nil | refine All2.cons ?_ ?_ | exact SubW.one (SubA.same _) | exact SubW.one (SubA.nil _) | exact SubW.one (SubA.ptr _) | refine SubW.agg ?_ | exact SubA.same _ | exact SubA.nil _ | exact SubA.ptr _)); first | done | fail)) (by simp only [go_sem]; repeat' (first | exact trivial | refine And.intro rfl ?_))))
  have e : ckR cs.length ns = 0 := by simp [ckR, hb]
  rw [e] at kw23
  by_cases ht : t < 0
  · have e2 : advR cs t ns = (63, cs) := by simp [advR, hb, ht]
    rw [e2]
    refine does_of_body Try.func36 rfl (by simp [Try.f36]) rfl rfl ?_; rw [Try.ntmps36, Try.results36]; intro w0 G0 ρ0
    ((repeat' (first | refine thenL_n ?_ | refine thenL_r ?_ | refine thenL_x ?_ | refine blockL_n ?_ | refine blockL_r ?_ | refine blockL_x ?_ | refine blockL_y rfl ?_ | refine awp_seq ?_ | refine awp_block ?_ | refine awp_ret ?_ | refine awp_exit ?_ | refine awp_skip ?_ | exact absurd hcond (by decide) | (first | (refine awp_txt ?_; refine runs_to [] (by simp only [go_sem, ht]; rfl) ?_) | (refine awp_draw mixed ?_; refine runs_to [] (by simp only [go_sem, ht]; rfl) ?_)) | refine runD_nil ⟨by kernel_rfl, ?_⟩ | refine runD_nil ?_ | (refine runD_lend (kw23) cb23 (by rfl) (.inl (by simp only [go_sem, ht]; rfl)) (by simp only [go_sem, lendL, lendV, lendA, lendAs, ht]; rfl) (by ((repeat' (first | exact All2.nil | refine All2.cons ?_ ?_ | exact SubV.one (SubT.same _) | exact SubV.one (SubT.nil _) | refine SubV.agg ?_ | exact SubT.same _ | exact SubT.nil _)); first | done | fail)) (by rfl) ?_; refine runs_to [] (by simp only [go_sem, ht]; rfl) ?_) | (refine awp_cond (b := _) (by simp only [go_sem, evB, ht]; rfl) (fun hcond => ?_) (fun hcond => ?_)))); all_goals (refine leavesD_ok (by first | exact Or.inl rfl | exact Or.inr rfl) (Imp.refl _) (by simp only [go_sem, resAll, resL, ht]; rfl) (by simp only [packL]; (first | refine SubS.v ?_ | refine SubS.tup ?_); ((repeat' (first | exact All2.nil | refine All2.cons ?_ ?_ | exact SubW.one (SubA.same _) | exact SubW.one (SubA.nil _) | exact SubW.one (SubA.ptr _) | refine SubW.agg ?_ | exact SubA.same _ | exact SubA.nil _ | exact SubA.ptr _)); first | done | fail)) (by simp only [go_sem, ht]; repeat' (first | exact trivial | refine And.intro rfl ?_))))
  have e2 : advR cs t ns = match advL t cs ns with | none => (63, cs) | some cs' => (0, cs') := by simp [advR, hb, ht]
  rw [e2]
  clear e2
  have kw45 := o45 cs (by intro h; rw [h] at h1; simp at h1) (by omega)
  refine does_of_body Try.func36 rfl (by simp [Try.f36]) rfl rfl ?_; rw [Try.ntmps36, Try.results36]; intro w0 G0 ρ0
  (repeat' (first | refine thenL_n ?_ | refine thenL_r ?_ | refine thenL_x ?_ | refine blockL_n ?_ | refine blockL_r ?_ | refine blockL_x ?_ | refine blockL_y rfl ?_ | refine awp_seq ?_ | refine awp_block ?_ | refine awp_ret ?_ | refine awp_exit ?_ | refine awp_skip ?_ | exact absurd hcond (by decide) | (first | (refine awp_txt ?_; refine runs_to [] (by simp only [go_sem, ht]; rfl) ?_) | (refine awp_draw mixed ?_; refine runs_to [] (by simp only [go_sem, ht]; rfl) ?_)) | refine runD_nil ⟨by kernel_rfl, ?_⟩ | refine runD_nil ?_ | (refine runD_lend (kw23) cb23 (by rfl) (.inl (by simp only [go_sem, ht]; rfl)) (by simp only [go_sem, lendL, lendV, lendA, lendAs, ht]; rfl) (by ((repeat' (first | exact All2.nil | refine All2.cons ?_ ?_ | exact SubV.one (SubT.same _) | exact SubV.one (SubT.nil _) | refine SubV.agg ?_ | exact SubT.same _ | exact SubT.nil _)); first | done | fail)) (by rfl) ?_; refine runs_to [] (by simp only [go_sem, ht]; rfl) ?_) | (refine runD_lend_own (kw45) cb45 (by rfl) (by simp only [go_sem, ht]; rfl) (by simp only [go_sem, lendL, lendV, lendA, lendAs, ht]; rfl) (by ((repeat' (first | exact All2.nil | refine All2.cons ?_ ?_ | exact SubV.one (SubT.same _) | exact SubV.one (SubT.nil _) | refine SubV.agg ?_ | exact SubT.same _ | exact SubT.nil _)); first | done | fail)) (by simp only [go_sem, litRow, litT, List.all_map, Function.comp_def, ht] <;> simp [litRow, litT]) (by simp only [go_sem, ht]; rfl) ?_; refine runs_to [] (by simp only [go_sem, ht]; rfl) ?_) | (refine awp_cond (b := _) (by simp only [go_sem, evB, ht]; rfl) (fun hcond => ?_) (fun hcond => ?_))))
  have ht0 : 0 ≤ t := by omega
  have hbn : ∀ n, n ∈ ns → 0 ≤ n ∧ n < cs.length := by
    intro n hn
    have : ns.any (badN cs.length) = false := by simpa using hb
    rw [List.any_eq_false] at this
    have := this n hn
    simp only [badN, Bool.or_eq_true, decide_eq_true_eq, not_or] at this
    omega
  refine awp_loop (fun p : Nat × List Int => [(.slot 0, sR 100000), (.vec 100000, rV 3 cs), (.slot 1, sI t), (.slot 8, sR 20), (.vec 20, rV 3 p.2), (.slot 21, sT (vInts ns)), (.slot 22, sI ns.length), (.slot 23, sI p.1)]) (fun p => p.1 ≤ ns.length ∧ p.2.length = cs.length ∧ okC p.2 ∧ advL t cs ns = advL t p.2 (ns.drop p.1)) (fun p => ns.length - p.1) (0, cs) ⟨Nat.zero_le _, rfl, hc, rfl⟩ (by refine Imp.of_in ?_; simp only [go_sem]) ?_
  rintro ⟨i, nx⟩ ⟨hi, hnl, hok, hadv⟩
  simp only at hi hnl hok hadv
  by_cases hlt : (i : Int) < ns.length
  · have hil : i < ns.length := by omega
    have hx : ns[i]? = some ns[i] := List.getElem?_eq_getElem hil
    have hd : ns.drop i = ns[i] :: ns.drop (i + 1) := List.drop_eq_getElem_cons hil
    have hbq := hbn ns[i] (List.getElem_mem _)
    generalize ns[i] = n at hx hd hbq
    have hw := up i (by omega)
    obtain ⟨q, rfl⟩ := Int.eq_ofNat_of_zero_le hbq.1
    have hql : q < nx.length := by omega
    have hqi : (q : Int) < (nx.length : Int) := by omega
    have hnx : nx[q]? = some nx[q] := List.getElem?_eq_getElem hql
    have hgd : nx.getD q 0 = nx[q] := by rw [List.getD_eq_getElem?_getD, hnx]; rfl
    have hcc := hok nx[q] (List.getElem_mem _)
    rw [hd, advL, Int.toNat_natCast, hgd] at hadv
    generalize nx[q] = c at hnx hgd hcc hadv
    have hsub : IntKind.i64.wrap (1099511627776 - c) = 1099511627776 - c := IntWalk.i64_in _ ⟨by omega, by omega⟩
    by_cases hg : 1099511627776 - c < t
    · rw [if_pos hg] at hadv
      rw [hadv]
      ((repeat' (first | refine thenL_n ?_ | refine thenL_r ?_ | refine thenL_x ?_ | refine blockL_n ?_ | refine blockL_r ?_ | refine blockL_x ?_ | refine blockL_y rfl ?_ | refine awp_seq ?_ | refine awp_block ?_ | refine awp_ret ?_ | refine awp_exit ?_ | refine awp_skip ?_ | exact absurd hcond (by decide) | (first | (refine awp_txt ?_; refine runs_to [] (by simp only [go_sem, hlt, hx, hw, hql, hqi, hnx, hsub, hg]; rfl) ?_) | (refine awp_draw mixed ?_; refine runs_to [] (by simp only [go_sem, hlt, hx, hw, hql, hqi, hnx, hsub, hg]; rfl) ?_)) | refine runD_nil ⟨by kernel_rfl, ?_⟩ | refine runD_nil ?_ | (refine awp_cond (b := _) (by simp only [go_sem, evB, hlt, hx, hw, hql, hqi, hnx, hsub, hg]; rfl) (fun hcond => ?_) (fun hcond => ?_)))); all_goals (refine leavesD_ok (by first | exact Or.inl rfl | exact Or.inr rfl) (Imp.refl _) (by simp only [go_sem, resAll, resL, hlt, hx, hw, hql, hqi, hnx, hsub, hg]; rfl) (by simp only [packL]; (first | refine SubS.v ?_ | refine SubS.tup ?_); ((repeat' (first | exact All2.nil | refine All2.cons ?_ ?_ | exact SubW.one (SubA.same _) | exact SubW.one (SubA.nil _) | exact SubW.one (SubA.ptr _) | refine SubW.agg ?_ | exact SubA.same _ | exact SubA.nil _ | exact SubA.ptr _)); first | done | fail)) (by simp only [go_sem, hlt, hx, hw, hql, hqi, hnx, hsub, hg]; repeat' (first | exact trivial | refine And.intro rfl ?_))))
    · rw [if_neg hg] at hadv
      have hadd : IntKind.i64.wrap (c + t) = c + t := IntWalk.i64_in _ ⟨by omega, by omega⟩
      have hset := mapSet nx q (c + t)
      (repeat' (first | refine thenL_n ?_ | refine thenL_r ?_ | refine thenL_x ?_ | refine blockL_n ?_ | refine blockL_r ?_ | refine blockL_x ?_ | refine blockL_y rfl ?_ | refine awp_seq ?_ | refine awp_block ?_ | refine awp_ret ?_ | refine awp_exit ?_ | refine awp_skip ?_ | exact absurd hcond (by decide) | (first | (refine awp_txt ?_; refine runs_to [] (by simp only [go_sem, hlt, hx, hw, hql, hqi, hnx, hsub, hg, hadd]; rfl) ?_) | (refine awp_draw mixed ?_; refine runs_to [] (by simp only [go_sem, hlt, hx, hw, hql, hqi, hnx, hsub, hg, hadd]; rfl) ?_)) | refine runD_nil ⟨by kernel_rfl, ?_⟩ | refine runD_nil ?_ | (refine awp_cond (b := _) (by simp only [go_sem, evB, hlt, hx, hw, hql, hqi, hnx, hsub, hg, hadd]; rfl) (fun hcond => ?_) (fun hcond => ?_))))
      exact ⟨(i + 1, nx.set q (c + t)), ⟨by simp only; omega, by simp only [List.length_set]; exact hnl, okC_set hok (by omega), hadv⟩, by simp only; omega, (by refine Imp.of_in ?_; simp only [go_sem, hset])⟩
  · have hd : ns.drop i = [] := by rw [show i = ns.length by omega, List.drop_length]
    rw [hd, advL] at hadv
    rw [hadv]
    ((repeat' (first | refine thenL_n ?_ | refine thenL_r ?_ | refine thenL_x ?_ | refine blockL_n ?_ | refine blockL_r ?_ | refine blockL_x ?_ | refine blockL_y rfl ?_ | refine awp_seq ?_ | refine awp_block ?_ | refine awp_ret ?_ | refine awp_exit ?_ | refine awp_skip ?_ | exact absurd hcond (by decide) | (first | (refine awp_txt ?_; refine runs_to [] (by simp only [go_sem, hlt, hnl]; rfl) ?_) | (refine awp_draw mixed ?_; refine runs_to [] (by simp only [go_sem, hlt, hnl]; rfl) ?_)) | refine runD_nil ⟨by kernel_rfl, ?_⟩ | refine runD_nil ?_ | (refine awp_cond (b := _) (by simp only [go_sem, evB, hlt, hnl]; rfl) (fun hcond => ?_) (fun hcond => ?_)))); all_goals (refine leavesD_ok (by first | exact Or.inl rfl | exact Or.inr rfl) (Imp.refl _) (by simp only [go_sem, resAll, resL, hlt, hnl]; rfl) (by simp only [packL]; (first | refine SubS.v ?_ | refine SubS.tup ?_); ((repeat' (first | exact All2.nil | refine All2.cons ?_ ?_ | exact SubW.one (SubA.same _) | exact SubW.one (SubA.nil _) | exact SubW.one (SubA.ptr _) | refine SubW.agg ?_ | exact SubA.same _ | exact SubA.nil _ | exact SubA.ptr _)); first | done | fail)) (by simp only [go_sem, hlt, hnl]; repeat' (first | exact trivial | refine And.intro rfl ?_))))
end Go.Proofs.Ytidnlnnobegniaa
set_option maxHeartbeats 4000000
set_option maxRecDepth 10000
set_option linter.unusedVariables false
set_option linter.unusedSimpArgs false
namespace Go.Proofs.Ytidnlnnobegniaa
open Go.AM Go.RowKit
attribute [local irreducible] AWP thenL blockL AM.Leaves LeavesO RunD
attribute [local go_sem] act0 actN actX actFieldM actIndexM actLoadM actStoreM actAllocM actBoxM actBuildM actSliceM actRange
  actEntry actDelB bigT bigOp offHole sizeM keyC actMakeMap actLookup actMapEntry actEntryStore actMapUpdate
  actDelete actClear actLen2 actIndex2 actLoad2 actOne actApp2 actCall2 actMark isZI isZS isOwn
  QHole.at holeB runs stepR actF inF frzA frzW lastW act act1 actPick
  actNil actBin actUn actConv actExtract actFieldAddr actField actAlloc keysOf actBox actLoad treesOf
  actStore actIndex actLen actMx srcL actAppend actMake actBuild actBuildSlice boundL actSlice actCall
  actEqS isStruct isSlice actText actCopy litsOf kindsOK fieldsPlain eqAll eqop dstB dstN
  boolS litB litV sv binv unv lits takeC cellsR trees cellsW mxv
  repl parts fillAt fillRows V1.cs mkV ev evr AM.look put del applyL
  delD wrD undefS SV.to V1.to At.to keysL notIn freshKey PV.up PR.up entry
  entryV evp isAt actPtrNil capsL actFunc sameV sameVs pureCtx doc mkVar AM.Loc.key
  Cont.keys SV.keys V1.keys At.keys Cont.sub SV.sub V1.sub At.sub guardR argsL callR eq_self
  Nat.blt_eq Nat.blt Nat.ble Nat.beq_eq_true_eq beq_self_eq_true Array.toList List.map List.append_eq List.nil_append List.cons_append List.append_nil List.append_assoc
  Bool.and_eq_true decide_true decide_false decide_eq_true_eq Bool.not_true Bool.not_false reduceCtorEq if_true if_false ite_true ite_false reduceIte
  AM.Loc.slot.injEq AM.Loc.cell.injEq AM.Loc.vec.injEq List.getElem?_cons_zero List.getElem?_cons_succ List.getElem?_nil Option.map_some Option.map_none Option.toList List.flatMap_nil List.flatMap_cons Bool.and_true
  Bool.true_and Bool.and_false Bool.false_and Bool.true_eq_false Bool.false_eq_true Nat.reduceBEq Nat.reduceEqDiff bool_beq_tt bool_beq_ff bool_beq_tf bool_beq_ft List.length_cons
  List.length_nil List.drop List.take List.drop_zero List.take_zero List.all_cons List.all_nil Value.oneCell' Nat.zero_add Nat.reduceAdd Nat.reduceMul Nat.reduceSub
  Nat.reduceLT Nat.reduceLeDiff Int.reduceLT Int.reduceLE Int.reduceEq Int.reduceBEq Int.reduceBNe Int.reduceAdd Int.reduceSub Int.reduceMul Int.reduceNeg Int.reduceToNat
  Nat.succ_ne_zero List.replicate and_true true_and and_false false_and and_self ge_iff_le gt_iff_lt bne_self_eq_false List.zip_cons_cons List.zip_nil_left
  List.zip List.zipWith Int.natCast_nonneg Int.toNat_natCast List.getElem?_map List.length_map sT sI sB sR sP rV
  AllIn Int.toNat_zero Int.ofNat_zero Int.natCast_zero Nat.le_refl List.mapM_cons List.mapM_nil Option.bind_eq_bind Option.bind_some Option.bind_none Option.pure_def List.set_cons_zero
  List.set_cons_succ List.length_set cellsF_length cellsF_lit putF_one tt2 tt3 tt4 tt5 tt9 tt12 tt21
  tt22 tt23 tt24 tt30 tt39 tt40 tt41 tt42 tt43 tt44 tt45 tt49
  tt59 tt60 tt61 tt62 tt63 tt66 tt67 tt70 tt94 tt98 mo60 mo61
  mg22 mg3 zz22 zz3 bi50 bi51 bi52 bi54 im60 ho54
attribute [local go_sem] vlit rInt rBool vInts pInts vBy vvBy lI lB nK lN rB

/-- What is left when nodes lose all. -/
def loseQ (Q : QF) (ns : List Int) : QF := fun a b => if a ∈ ns ∨ b ∈ ns then [] else Q a b
def loseR (k : Nat) (Q : QF) (ns : List Int) : Int × QF := if ns.any (badN k) = true then (60, Q) else (0, loseQ Q ns)

theorem s33 (cs : List Int) (room : Int) (Q : QF) (S : SF) (ns : List Int) (hl : ns.length ≤ 4611686018427387903) :
    Does Try.prog 33 [.one (.ptr 100000 0), .one (.t (vInts ns))] (nK 100000 100001 100002 100003 cs room Q .none [] S) (.v (.one (lI (loseR cs.length Q ns).1))) (nK 100000 100001 100002 100003 cs room (loseR cs.length Q ns).2 .none [] S) := by
  have kw23 := c23 cs ns hl
  by_cases hb : ns.any (badN cs.length) = true
  · have e : ckR cs.length ns = 60 := by simp [ckR, hb]
    rw [e] at kw23
    have e2 : loseR cs.length Q ns = (60, Q) := by simp [loseR, hb]
    rw [e2]
    refine does_of_body Try.func33 rfl (by simp [Try.f33]) rfl rfl ?_; rw [Try.ntmps33, Try.results33]; intro w0 G0 ρ0
    ((repeat' (first | refine thenL_n ?_ | refine thenL_r ?_ | refine thenL_x ?_ | refine blockL_n ?_ | refine blockL_r ?_ | refine blockL_x ?_ | refine blockL_y rfl ?_ | refine awp_seq ?_ | refine awp_block ?_ | refine awp_ret ?_ | refine awp_exit ?_ | refine awp_skip ?_ | exact absurd hcond (by decide) | (first | (refine awp_txt ?_; refine runs_to [] (by simp only [go_sem]; rfl) ?_) | (refine awp_draw mixed ?_; refine runs_to [] (by simp only [go_sem]; rfl) ?_)) | refine runD_nil ⟨by kernel_rfl, ?_⟩ | refine runD_nil ?_ | (refine runD_lend (kw23) cb23 (by rfl) (.inl (by simp only [go_sem]; rfl)) (by simp only [go_sem, lendL, lendV, lendA, lendAs]; rfl) (by ((repeat' (first | exact All2.nil | refine All2.cons ?_ ?_ | exact SubV.one (SubT.same _) | exact SubV.one (SubT.nil _) | refine SubV.agg ?_ | exact SubT.same _ | exact SubT.nil _)); first | done | fail)) (by rfl) ?_; refine runs_to [] (by simp only [go_sem]; rfl) ?_) | (refine awp_cond (b := _) (by simp only [go_sem, evB]; rfl) (fun hcond => ?_) (fun hcond => ?_)))); all_goals (refine leavesD_ok (by first | exact Or.inl rfl | exact Or.inr rfl) (Imp.refl _) (by simp only [go_sem, resAll, resL]; rfl) (by simp only [packL]; (first | refine SubS.v ?_ | refine SubS.tup ?_); ((repeat' (first | exact All2.nil | refine All2.cons ?_ ?_ | exact SubW.one (SubA.same _) | exact SubW.one (SubA.nil _) | exact SubW.one (SubA.ptr _) | refine SubW.agg ?_ | exact SubA.same _ | exact SubA.nil _ | exact SubA.ptr _)); first | done | fail)) (by simp only [go_sem]; repeat' (first | exact trivial | refine And.intro rfl ?_))))
  have e : ckR cs.length ns = 0 := by simp [ckR, hb]
  rw [e] at kw23
  have e2 : loseR cs.length Q ns = (0, loseQ Q ns) := by simp [loseR, hb]
  rw [e2]
  clear e2
  refine does_of_body Try.func33 rfl (by simp [Try.f33]) rfl rfl ?_; rw [Try.ntmps33, Try.results33]; intro w0 G0 ρ0
  (repeat' (first | refine thenL_n ?_ | refine thenL_r ?_ | refine thenL_x ?_ | refine blockL_n ?_ | refine blockL_r ?_ | refine blockL_x ?_ | refine blockL_y rfl ?_ | refine awp_seq ?_ | refine awp_block ?_ | refine awp_ret ?_ | refine awp_exit ?_ | refine awp_skip ?_ | exact absurd hcond (by decide) | ((fail_if_success (refine isReg 4 ?_)); first | (refine awp_txt ?_; refine runs_to [] (by simp only [go_sem]; rfl) ?_) | (refine awp_draw mixed ?_; refine runs_to [] (by simp only [go_sem]; rfl) ?_)) | refine runD_nil ⟨by kernel_rfl, ?_⟩ | refine runD_nil ?_ | (refine runD_lend (kw23) cb23 (by rfl) (.inl (by simp only [go_sem]; rfl)) (by simp only [go_sem, lendL, lendV, lendA, lendAs]; rfl) (by ((repeat' (first | exact All2.nil | refine All2.cons ?_ ?_ | exact SubV.one (SubT.same _) | exact SubV.one (SubT.nil _) | refine SubV.agg ?_ | exact SubT.same _ | exact SubT.nil _)); first | done | fail)) (by rfl) ?_; refine runs_to [] (by simp only [go_sem]; rfl) ?_) | (refine awp_cond (b := _) (by simp only [go_sem, evB]; rfl) (fun hcond => ?_) (fun hcond => ?_))))
  refine awp_toB 100002 (by simp only [go_sem]; rfl) ?_
  intro B clk hB0 hBl hBi
  (repeat' (first | refine thenL_n ?_ | refine thenL_r ?_ | refine thenL_x ?_ | refine blockL_n ?_ | refine blockL_r ?_ | refine blockL_x ?_ | refine blockL_y rfl ?_ | refine awp_seq ?_ | refine awp_block ?_ | refine awp_ret ?_ | refine awp_exit ?_ | refine awp_skip ?_ | exact absurd hcond (by decide) | (first | (refine awp_txt ?_; refine runs_to [] (by simp only [go_sem]; rfl) ?_) | (refine awp_draw mixed ?_; refine runs_to [] (by simp only [go_sem]; rfl) ?_)) | refine runD_nil ⟨by kernel_rfl, ?_⟩ | refine runD_nil ?_ | (refine awp_cond (b := _) (by simp only [go_sem, evB]; rfl) (fun hcond => ?_) (fun hcond => ?_))))
  refine awp_loop (fun p : QF × (Int → Int → Option Nat) × List Nat × (Int × Int) => (.slot 0, .s (.v (.one (.ptr 100000 0)))) :: (.slot 1, sT (vInts ns)) :: (.slot 20, .s (.v (.one (.vptr 20 1 0 0)))) :: (.vec 20, .o (.iter clk p.2.2.1 p.2.2.2) [100002]) :: (.cell 100000 0, .c (.row 100001)) :: (.vec 100001, rV 3 cs) :: (.cell 100000 1, .c (lI room)) :: (.cell 100000 2, .c (.obj 100002)) :: (.vec 100002, .o (.qsB 30 5 p.1 p.2.1 clk) []) :: (.cell 100000 3, .c (.obj 100003)) :: (.vec 100003, .o (.cuts S) []) :: [])
    (fun p => (∀ a b, p.1 a b = Q a b ∨ (p.1 a b = [] ∧ (a ∈ ns ∨ b ∈ ns))) ∧ (∀ a b n, p.2.1 a b = some n → B a b = some n) ∧ (∀ a b, p.2.1 a b = none → p.1 a b = []) ∧ (∀ a b n, p.2.1 a b = some n → n ∈ p.2.2.1 → ¬ (a ∈ ns ∨ b ∈ ns)) ∧ p.2.2.1.Nodup ∧ ∀ n, n ∈ p.2.2.1 → n < clk)
    (fun p => clk - p.2.2.1.length) (Q, B, [], (0, 0)) ⟨fun _ _ => .inl rfl, fun _ _ _ h => h, hB0, fun _ _ _ _ h => by simp at h, List.nodup_nil, fun _ h => by simp at h⟩ (by refine Imp.of_in ?_; simp only [go_sem]) ?_
  rintro ⟨Q', B', seen, cur⟩ ⟨i1, i2, i3, i4, i5, i6⟩
  simp only at i1 i2 i3 i4 i5 i6
  refine awp_seq ?_
  refine awp_next (κi := 20) (κ := 100002) (x := .tmp 20) (d0 := 21) (d1 := 22) rfl rfl rfl rfl rfl rfl rfl (by show (21 : Nat) < 40; decide) (by show (22 : Nat) < 40; decide) (by simp only [go_sem]) (by simp only [go_sem]; rfl) (by simp only [go_sem]; rfl) ?_ ?_
  · intro hall
    refine thenL_n ?_
    have hQ : Q' = loseQ Q ns := by
      funext a b
      unfold loseQ
      split
      · rename_i hab
        cases hB : B' a b with
        | none => exact i3 a b hB
        | some n => exact absurd hab (i4 a b n hB (hall a b n hB))
      · rename_i hab
        rcases i1 a b with h | h
        · exact h
        · exact absurd h.2 hab
    rw [hQ]
    (repeat' (first | refine thenL_n ?_ | refine thenL_r ?_ | refine thenL_x ?_ | refine blockL_n ?_ | refine blockL_r ?_ | refine blockL_x ?_ | refine blockL_y rfl ?_ | refine awp_seq ?_ | refine awp_block ?_ | refine awp_ret ?_ | refine awp_exit ?_ | refine awp_skip ?_ | exact absurd hcond (by decide) | ((fail_if_success (refine isReg 9 ?_)); first | (refine awp_txt ?_; refine runs_to [] (by simp only [go_sem]; rfl) ?_) | (refine awp_draw mixed ?_; refine runs_to [] (by simp only [go_sem]; rfl) ?_)) | refine runD_nil ⟨by kernel_rfl, ?_⟩ | refine runD_nil ?_ | (refine awp_cond (b := _) (by simp only [go_sem, evB]; rfl) (fun hcond => ?_) (fun hcond => ?_))))
    refine awp_imp (Imp.fromB 100002 (by simp only [go_sem]; rfl) rfl) ?_
    ((repeat' (first | refine thenL_n ?_ | refine thenL_r ?_ | refine thenL_x ?_ | refine blockL_n ?_ | refine blockL_r ?_ | refine blockL_x ?_ | refine blockL_y rfl ?_ | refine awp_seq ?_ | refine awp_block ?_ | refine awp_ret ?_ | refine awp_exit ?_ | refine awp_skip ?_ | exact absurd hcond (by decide) | (first | (refine awp_txt ?_; refine runs_to [] (by simp only [go_sem]; rfl) ?_) | (refine awp_draw mixed ?_; refine runs_to [] (by simp only [go_sem]; rfl) ?_)) | refine runD_nil ⟨by kernel_rfl, ?_⟩ | refine runD_nil ?_ | (refine awp_cond (b := _) (by simp only [go_sem, evB]; rfl) (fun hcond => ?_) (fun hcond => ?_)))); all_goals (refine leavesD_ok (by first | exact Or.inl rfl | exact Or.inr rfl) (Imp.refl _) (by simp only [go_sem, resAll, resL]; rfl) (by simp only [packL]; (first | refine SubS.v ?_ | refine SubS.tup ?_); ((repeat' (first | exact All2.nil | refine All2.cons ?_ ?_ | exact SubW.one (SubA.same _) | exact SubW.one (SubA.nil _) | exact SubW.one (SubA.ptr _) | refine SubW.agg ?_ | exact SubA.same _ | exact SubA.nil _ | exact SubA.ptr _)); first | done | fail)) (by simp only [go_sem]; repeat' (first | exact trivial | refine And.intro rfl ?_))))
  · intro a b n hB hns
    refine thenL_n ?_
    have hget : (seen ++ [n]).getLast? = some n := by simp
    have hlen : (seen ++ [n]).length ≤ clk := by
      have hnd : (seen ++ [n]).Nodup := by
        rw [List.nodup_append]
        exact ⟨i5, by simp, fun x hx y hy e => by simp at hy; subst hy; subst e; exact hns hx⟩
      have hsub : (seen ++ [n]) ⊆ List.range clk := by
        intro x hx
        rw [List.mem_range]
        rcases List.mem_append.1 hx with hx | hx
        · exact i6 x hx
        · simp at hx; subst hx; exact hBl _ _ _ (i2 _ _ _ hB)
      have := List.Nodup.length_le_of_subset hnd hsub
      simpa using this
    have hnd : (seen ++ [n]).Nodup := by
      rw [List.nodup_append]
      exact ⟨i5, by simp, fun x hx y hy e => by simp at hy; subst hy; subst e; exact hns hx⟩
    have h6 : ∀ x, x ∈ seen ++ [n] → x < clk := by
      intro x hx
      rcases List.mem_append.1 hx with hx | hx
      · exact i6 x hx
      · simp at hx; subst hx; exact hBl _ _ _ (i2 _ _ _ hB)
    have hmeas : clk - (seen ++ [n]).length < clk - seen.length := by
      rw [List.length_append] at hlen ⊢; simp only [List.length_cons, List.length_nil] at hlen ⊢; omega
    have k44 := c44 ns a hl
    have kw44 := c44 ns b hl
    generalize hsn : seen ++ [n] = seen' at hget hlen hnd h6 hmeas
    have hin : ∀ x, x ∈ seen' → x ∈ seen ∨ x = n := by
      intro x hx; rw [← hsn] at hx; simpa using hx
    -- lost
    have hlost : (a ∈ ns ∨ b ∈ ns) → ((∀ c d, updQ Q' a b [] c d = Q c d ∨ (updQ Q' a b [] c d = [] ∧ (c ∈ ns ∨ d ∈ ns))) ∧ (∀ c d m, updB B' a b c d = some m → B c d = some m) ∧ (∀ c d, updB B' a b c d = none → updQ Q' a b [] c d = []) ∧ (∀ c d m, updB B' a b c d = some m → m ∈ seen' → ¬ (c ∈ ns ∨ d ∈ ns))) := by
      intro hab
      refine ⟨fun c d => ?_, fun c d m h => ?_, fun c d h => ?_, fun c d m h hm => ?_⟩
      · unfold updQ
        split
        · rename_i e; rw [e.1, e.2]; exact .inr ⟨rfl, hab⟩
        · exact i1 c d
      · unfold updB at h
        split at h
        · simp at h
        · exact i2 c d m h
      · unfold updB at h; unfold updQ
        split at h
        · rename_i e; rw [if_pos e]
        · rename_i e; rw [if_neg e]; exact i3 c d h
      · unfold updB at h
        split at h
        · simp at h
        · rename_i e
          rcases hin m hm with hm | rfl
          · exact i4 c d m h hm
          · exact absurd (hBi _ _ _ _ _ (i2 _ _ _ h) (i2 _ _ _ hB)) e
    have hkept : ¬ (a ∈ ns ∨ b ∈ ns) → ∀ c d m, B' c d = some m → m ∈ seen' → ¬ (c ∈ ns ∨ d ∈ ns) := by
      intro hab c d m h hm
      rcases hin m hm with hm | rfl
      · exact i4 c d m h hm
      · obtain ⟨rfl, rfl⟩ := hBi _ _ _ _ _ (i2 _ _ _ h) (i2 _ _ _ hB)
        exact hab
    by_cases ha : a ∈ ns
    · rw [decide_eq_true ha] at k44
      obtain ⟨j1, j2, j3, j4⟩ := hlost (.inl ha)
      (repeat' (first | refine thenL_n ?_ | refine thenL_r ?_ | refine thenL_x ?_ | refine blockL_n ?_ | refine blockL_r ?_ | refine blockL_x ?_ | refine blockL_y rfl ?_ | refine awp_seq ?_ | refine awp_block ?_ | refine awp_ret ?_ | refine awp_exit ?_ | refine awp_skip ?_ | exact absurd hcond (by decide) | (first | (refine awp_txt ?_; refine runs_to [] (by simp only [go_sem, hget, hB]; rfl) ?_) | (refine awp_draw mixed ?_; refine runs_to [] (by simp only [go_sem, hget, hB]; rfl) ?_)) | refine runD_nil ⟨by kernel_rfl, ?_⟩ | refine runD_nil ?_ | (refine runD_call (k44) cb44 (by rfl) (by simp only [go_sem, hget, hB]; rfl) (by ((repeat' (first | exact All2.nil | refine All2.cons ?_ ?_ | exact SubV.one (SubT.same _) | exact SubV.one (SubT.nil _) | refine SubV.agg ?_ | exact SubT.same _ | exact SubT.nil _)); first | done | fail)) ?_; refine runs_to [] (by simp only [go_sem, hget, hB]; rfl) ?_) | (refine awp_cond (b := _) (by simp only [go_sem, evB, hget, hB]; rfl) (fun hcond => ?_) (fun hcond => ?_))))
      exact ⟨(updQ Q' a b [], updB B' a b, seen', (a, b)), ⟨j1, j2, j3, j4, hnd, h6⟩, hmeas, (by refine Imp.of_in ?_; simp only [go_sem])⟩
    · rw [decide_eq_false ha] at k44
      by_cases hb2 : b ∈ ns
      · rw [decide_eq_true hb2] at kw44
        obtain ⟨j1, j2, j3, j4⟩ := hlost (.inr hb2)
        (repeat' (first | refine thenL_n ?_ | refine thenL_r ?_ | refine thenL_x ?_ | refine blockL_n ?_ | refine blockL_r ?_ | refine blockL_x ?_ | refine blockL_y rfl ?_ | refine awp_seq ?_ | refine awp_block ?_ | refine awp_ret ?_ | refine awp_exit ?_ | refine awp_skip ?_ | exact absurd hcond (by decide) | (first | (refine awp_txt ?_; refine runs_to [] (by simp only [go_sem, hget, hB]; rfl) ?_) | (refine awp_draw mixed ?_; refine runs_to [] (by simp only [go_sem, hget, hB]; rfl) ?_)) | refine runD_nil ⟨by kernel_rfl, ?_⟩ | refine runD_nil ?_ | (refine runD_call (k44) cb44 (by rfl) (by simp only [go_sem, hget, hB]; rfl) (by ((repeat' (first | exact All2.nil | refine All2.cons ?_ ?_ | exact SubV.one (SubT.same _) | exact SubV.one (SubT.nil _) | refine SubV.agg ?_ | exact SubT.same _ | exact SubT.nil _)); first | done | fail)) ?_; refine runs_to [] (by simp only [go_sem, hget, hB]; rfl) ?_) | (refine runD_call (kw44) cb44 (by rfl) (by simp only [go_sem, hget, hB]; rfl) (by ((repeat' (first | exact All2.nil | refine All2.cons ?_ ?_ | exact SubV.one (SubT.same _) | exact SubV.one (SubT.nil _) | refine SubV.agg ?_ | exact SubT.same _ | exact SubT.nil _)); first | done | fail)) ?_; refine runs_to [] (by simp only [go_sem, hget, hB]; rfl) ?_) | (refine awp_cond (b := _) (by simp only [go_sem, evB, hget, hB]; rfl) (fun hcond => ?_) (fun hcond => ?_))))
        exact ⟨(updQ Q' a b [], updB B' a b, seen', (a, b)), ⟨j1, j2, j3, j4, hnd, h6⟩, hmeas, (by refine Imp.of_in ?_; simp only [go_sem])⟩
      · rw [decide_eq_false hb2] at kw44
        (repeat' (first | refine thenL_n ?_ | refine thenL_r ?_ | refine thenL_x ?_ | refine blockL_n ?_ | refine blockL_r ?_ | refine blockL_x ?_ | refine blockL_y rfl ?_ | refine awp_seq ?_ | refine awp_block ?_ | refine awp_ret ?_ | refine awp_exit ?_ | refine awp_skip ?_ | exact absurd hcond (by decide) | (first | (refine awp_txt ?_; refine runs_to [] (by simp only [go_sem, hget, hB]; rfl) ?_) | (refine awp_draw mixed ?_; refine runs_to [] (by simp only [go_sem, hget, hB]; rfl) ?_)) | refine runD_nil ⟨by kernel_rfl, ?_⟩ | refine runD_nil ?_ | (refine runD_call (k44) cb44 (by rfl) (by simp only [go_sem, hget, hB]; rfl) (by ((repeat' (first | exact All2.nil | refine All2.cons ?_ ?_ | exact SubV.one (SubT.same _) | exact SubV.one (SubT.nil _) | refine SubV.agg ?_ | exact SubT.same _ | exact SubT.nil _)); first | done | fail)) ?_; refine runs_to [] (by simp only [go_sem, hget, hB]; rfl) ?_) | (refine runD_call (kw44) cb44 (by rfl) (by simp only [go_sem, hget, hB]; rfl) (by ((repeat' (first | exact All2.nil | refine All2.cons ?_ ?_ | exact SubV.one (SubT.same _) | exact SubV.one (SubT.nil _) | refine SubV.agg ?_ | exact SubT.same _ | exact SubT.nil _)); first | done | fail)) ?_; refine runs_to [] (by simp only [go_sem, hget, hB]; rfl) ?_) | (refine awp_cond (b := _) (by simp only [go_sem, evB, hget, hB]; rfl) (fun hcond => ?_) (fun hcond => ?_))))
        exact ⟨(Q', B', seen', (a, b)), ⟨i1, i2, i3, hkept (by simp [ha, hb2]), hnd, h6⟩, hmeas, (by refine Imp.of_in ?_; simp only [go_sem])⟩
end Go.Proofs.Ytidnlnnobegniaa
set_option maxHeartbeats 4000000
set_option maxRecDepth 10000
set_option linter.unusedVariables false
set_option linter.unusedSimpArgs false
namespace Go.Proofs.Ytidnlnnobegniaa
open Go.AM Go.RowKit
attribute [local irreducible] AWP thenL blockL AM.Leaves LeavesO RunD
attribute [local go_sem] act0 actN actX actFieldM actIndexM actLoadM actStoreM actAllocM actBoxM actBuildM actSliceM actRange
  actEntry actDelB bigT bigOp offHole sizeM keyC actMakeMap actLookup actMapEntry actEntryStore actMapUpdate
  actDelete actClear actLen2 actIndex2 actLoad2 actOne actApp2 actCall2 actMark isZI isZS isOwn
  QHole.at holeB runs stepR actF inF frzA frzW lastW act act1 actPick
  actNil actBin actUn actConv actExtract actFieldAddr actField actAlloc keysOf actBox actLoad treesOf
  actStore actIndex actLen actMx srcL actAppend actMake actBuild actBuildSlice boundL actSlice actCall
  actEqS isStruct isSlice actText actCopy litsOf kindsOK fieldsPlain eqAll eqop dstB dstN
  boolS litB litV sv binv unv lits takeC cellsR trees cellsW mxv
  repl parts fillAt fillRows V1.cs mkV ev evr AM.look put del applyL
  delD wrD undefS SV.to V1.to At.to keysL notIn freshKey PV.up PR.up entry
  entryV evp isAt actPtrNil capsL actFunc sameV sameVs pureCtx doc mkVar AM.Loc.key
  Cont.keys SV.keys V1.keys At.keys Cont.sub SV.sub V1.sub At.sub guardR argsL callR eq_self
  Nat.blt_eq Nat.blt Nat.ble Nat.beq_eq_true_eq beq_self_eq_true Array.toList List.map List.append_eq List.nil_append List.cons_append List.append_nil List.append_assoc
  Bool.and_eq_true decide_true decide_false decide_eq_true_eq Bool.not_true Bool.not_false reduceCtorEq if_true if_false ite_true ite_false reduceIte
  AM.Loc.slot.injEq AM.Loc.cell.injEq AM.Loc.vec.injEq List.getElem?_cons_zero List.getElem?_cons_succ List.getElem?_nil Option.map_some Option.map_none Option.toList List.flatMap_nil List.flatMap_cons Bool.and_true
  Bool.true_and Bool.and_false Bool.false_and Bool.true_eq_false Bool.false_eq_true Nat.reduceBEq Nat.reduceEqDiff bool_beq_tt bool_beq_ff bool_beq_tf bool_beq_ft List.length_cons
  List.length_nil List.drop List.take List.drop_zero List.take_zero List.all_cons List.all_nil Value.oneCell' Nat.zero_add Nat.reduceAdd Nat.reduceMul Nat.reduceSub
  Nat.reduceLT Nat.reduceLeDiff Int.reduceLT Int.reduceLE Int.reduceEq Int.reduceBEq Int.reduceBNe Int.reduceAdd Int.reduceSub Int.reduceMul Int.reduceNeg Int.reduceToNat
  Nat.succ_ne_zero List.replicate and_true true_and and_false false_and and_self ge_iff_le gt_iff_lt bne_self_eq_false List.zip_cons_cons List.zip_nil_left
  List.zip List.zipWith Int.natCast_nonneg Int.toNat_natCast List.getElem?_map List.length_map sT sI sB sR sP rV
  AllIn Int.toNat_zero Int.ofNat_zero Int.natCast_zero Nat.le_refl List.mapM_cons List.mapM_nil Option.bind_eq_bind Option.bind_some Option.bind_none Option.pure_def List.set_cons_zero
  List.set_cons_succ List.length_set cellsF_length cellsF_lit putF_one tt2 tt3 tt4 tt5 tt9 tt12 tt21
  tt22 tt23 tt24 tt30 tt39 tt40 tt41 tt42 tt43 tt44 tt45 tt49
  tt59 tt60 tt61 tt62 tt63 tt66 tt67 tt70 tt94 tt98 mo60 mo61
  mg22 mg3 zz22 zz3 bi50 bi51 bi52 bi54 im60 ho54
attribute [local go_sem] vlit rInt rBool vInts pInts vBy vvBy lI lB nK lN rB

/-- Copied, and the caller's own. -/
theorem s10 (ms : List (List Int)) (hl : ms.length * 24 ≤ 140737488351232) (hms : ∀ m, m ∈ ms → m.length ≤ 140737488355328) :
    Does Try.prog 10 [.one (.t (vvBy ms))] [] (.v (.one (.row 60))) [(.vec 60, .o (.nest 30 5 ms none) [])] := by
  refine does_of_body Try.func10 rfl (by simp [Try.f10]) rfl rfl ?_; rw [Try.ntmps10, Try.results10]; intro w0 G0 ρ0
  (repeat' (first | refine thenL_n ?_ | refine thenL_r ?_ | refine thenL_x ?_ | refine blockL_n ?_ | refine blockL_r ?_ | refine blockL_x ?_ | refine blockL_y rfl ?_ | refine awp_seq ?_ | refine awp_block ?_ | refine awp_ret ?_ | refine awp_exit ?_ | refine awp_skip ?_ | exact absurd hcond (by decide) | (first | (refine awp_txt ?_; refine runs_to [] (by simp only [go_sem]; rfl) ?_) | (refine awp_draw mixed ?_; refine runs_to [] (by simp only [go_sem]; rfl) ?_)) | refine runD_nil ⟨by kernel_rfl, ?_⟩ | refine runD_nil ?_ | (refine awp_cond (b := _) (by simp only [go_sem, evB]; rfl) (fun hcond => ?_) (fun hcond => ?_))))
  refine awp_loop (fun i : Nat => [(.slot 3, sR 40), (.vec 40, .o (.nest 30 5 (ms.take i) none) []), (.slot 6, sT (vvBy ms)), (.slot 7, sI ms.length), (.slot 8, sI i)]) (fun i => i ≤ ms.length) (fun i => ms.length - i) 0 (Nat.zero_le _) (Imp.trans (Imp.adoptNE 3 40 30 5 (by simp only [go_sem]) (by decide) (by simp only [go_sem]) rfl) (by refine Imp.of_in ?_; simp only [go_sem, List.take_zero, Int.natCast_zero])) ?_
  intro i hi
  by_cases hlt : (i : Int) < ms.length
  · have hil : i < ms.length := by omega
    have hxi : ms[i]? = some ms[i] := List.getElem?_eq_getElem hil
    have hts : ms.take (i + 1) = ms.take i ++ [ms[i]] := List.take_succ_eq_append_getElem hil
    have hq := hms ms[i] (List.getElem_mem _)
    generalize ms[i] = q at hxi hts hq
    have hw := up i (by omega)
    have hc0 : (List.take i ms).length ≤ i := by rw [List.length_take]; omega
    have hc1 : (List.take i ms).length ≤ 140737488355327 := by omega
    have hc2 : ((List.take i ms).length + 1) * 24 ≤ 140737488355328 := by omega
    have hby : bytesOf (List.map (fun n => [T.lit (.int .u8 n)]) q) = some q := bytesOf_rows q
    (repeat' (first | refine thenL_n ?_ | refine thenL_r ?_ | refine thenL_x ?_ | refine blockL_n ?_ | refine blockL_r ?_ | refine blockL_x ?_ | refine blockL_y rfl ?_ | refine awp_seq ?_ | refine awp_block ?_ | refine awp_ret ?_ | refine awp_exit ?_ | refine awp_skip ?_ | exact absurd hcond (by decide) | (first | (refine awp_txt ?_; refine runs_to [] (by simp only [go_sem, hlt, hil, hxi, hw, hc1, hc2, hby]; rfl) ?_) | (refine awp_draw mixed ?_; refine runs_to [] (by simp only [go_sem, hlt, hil, hxi, hw, hc1, hc2, hby]; rfl) ?_)) | refine runD_nil ⟨by kernel_rfl, ?_⟩ | refine runD_nil ?_ | (refine runD_own (o25 q hq) cb25 (by rfl) (by simp only [go_sem, hlt, hil, hxi, hw, hc1, hc2, hby]; rfl) (by simp only [go_sem, hlt, hil, hxi, hw, hc1, hc2, hby]; rfl) (by ((repeat' (first | exact All2.nil | refine All2.cons ?_ ?_ | exact SubV.one (SubT.same _) | exact SubV.one (SubT.nil _) | refine SubV.agg ?_ | exact SubT.same _ | exact SubT.nil _)); first | done | fail)) ?_; refine runs_to [] (by simp only [go_sem, hlt, hil, hxi, hw, hc1, hc2, hby]; rfl) ?_) | (refine awp_cond (b := _) (by simp only [go_sem, evB, hlt, hil, hxi, hw, hc1, hc2, hby]; rfl) (fun hcond => ?_) (fun hcond => ?_))))
    refine ⟨i + 1, by omega, by omega, (by refine Imp.back 16 40 (by simp only [go_sem, renL, Loc.ren, Cont.ren, SV.ren, V1.ren, At.ren,  hts]) (by simp only [go_sem, renL, Loc.ren, Cont.ren, SV.ren, V1.ren, At.ren,  hts]) (by simp only [go_sem, renL, Loc.ren, Cont.ren, SV.ren, V1.ren, At.ren,  hts]) (by decide) (by decide) ?_; refine Imp.of_in ?_; simp only [go_sem, renL, Loc.ren, Cont.ren, SV.ren, V1.ren, At.ren,  hts])⟩
  · have hta : ms.take i = ms := by rw [show i = ms.length by omega, List.take_length]
    rw [hta]
    (repeat' (first | refine thenL_n ?_ | refine thenL_r ?_ | refine thenL_x ?_ | refine blockL_n ?_ | refine blockL_r ?_ | refine blockL_x ?_ | refine blockL_y rfl ?_ | refine awp_seq ?_ | refine awp_block ?_ | refine awp_ret ?_ | refine awp_exit ?_ | refine awp_skip ?_ | exact absurd hcond (by decide) | (first | (refine awp_txt ?_; refine runs_to [] (by simp only [go_sem, hlt]; rfl) ?_) | (refine awp_draw mixed ?_; refine runs_to [] (by simp only [go_sem, hlt]; rfl) ?_)) | refine runD_nil ⟨by kernel_rfl, ?_⟩ | refine runD_nil ?_ | (refine awp_cond (b := _) (by simp only [go_sem, evB, hlt]; rfl) (fun hcond => ?_) (fun hcond => ?_))))
    refine leavesD_ok (by first | exact Or.inl rfl | exact Or.inr rfl) (Imp.takeE 40 60 (by simp only [go_sem, renL, Loc.ren, Cont.ren, SV.ren, V1.ren, At.ren]) (by simp only [go_sem, renL, Loc.ren, Cont.ren, SV.ren, V1.ren, At.ren]; rfl) (by decide) (by simp only [go_sem, renL, Loc.ren, Cont.ren, SV.ren, V1.ren, At.ren]; rfl)) (by simp only [go_sem, resAll, resL]; rfl) (by simp only [packL]; (first | refine SubS.v ?_ | refine SubS.tup ?_); ((repeat' (first | exact All2.nil | refine All2.cons ?_ ?_ | exact SubW.one (SubA.same _) | exact SubW.one (SubA.nil _) | exact SubW.one (SubA.ptr _) | refine SubW.agg ?_ | exact SubA.same _ | exact SubA.nil _ | exact SubA.ptr _)); first | done | fail)) (by simp only [go_sem]; repeat' (first | exact trivial | refine And.intro rfl ?_))

/-- Sent, and the messages stay the caller's own. -/
theorem s9na (cs : List Int) (room : Int) (Q : QF) (S : SF) (a b : Int) (ms : List (List Int)) (h : (badN cs.length a || badN cs.length b) = true) :
    Does Try.prog 9 [.one (.ptr 100000 0), .one (lI a), .one (lI b), .one (.row 100010)] (nK 100000 100001 100002 100003 cs room Q .none [] S ++ [(.vec 100010, .o (.nest 30 5 ms none) [])]) (.v (.one (lI 60))) (nK 100000 100001 100002 100003 cs room Q .none [] S ++ [(.vec 100010, .o (.nest 30 5 ms none) [])]) := by
  have kw23 : Pure Try.prog 23 [pInts cs, pInts [a, b]] (rInt 60) := by
    have := c23 cs [a, b] (by simp)
    rwa [ck2, h] at this
  refine does_of_body Try.func9 rfl (by simp [Try.f9]) rfl rfl ?_; rw [Try.ntmps9, Try.results9]; intro w0 G0 ρ0
  ((repeat' (first | refine thenL_n ?_ | refine thenL_r ?_ | refine thenL_x ?_ | refine blockL_n ?_ | refine blockL_r ?_ | refine blockL_x ?_ | refine blockL_y rfl ?_ | refine awp_seq ?_ | refine awp_block ?_ | refine awp_ret ?_ | refine awp_exit ?_ | refine awp_skip ?_ | exact absurd hcond (by decide) | (first | (refine awp_txt ?_; refine runs_to [19] (by simp only [go_sem]; rfl) ?_) | (refine awp_draw mixed ?_; refine runs_to [19] (by simp only [go_sem]; rfl) ?_)) | refine runD_nil ⟨by kernel_rfl, ?_⟩ | refine runD_nil ?_ | (refine runD_lend (kw23) cb23 (by rfl) (.inl (by simp only [go_sem]; rfl)) (by simp only [go_sem, lendL, lendV, lendA, lendAs]; rfl) (by ((repeat' (first | exact All2.nil | refine All2.cons ?_ ?_ | exact SubV.one (SubT.same _) | exact SubV.one (SubT.nil _) | refine SubV.agg ?_ | exact SubT.same _ | exact SubT.nil _)); first | done | fail)) (by rfl) ?_; refine runs_to [19] (by simp only [go_sem]; rfl) ?_) | (refine awp_cond (b := _) (by simp only [go_sem, evB]; rfl) (fun hcond => ?_) (fun hcond => ?_)))); all_goals (refine leavesD_ok (by first | exact Or.inl rfl | exact Or.inr rfl) (Imp.refl _) (by simp only [go_sem, resAll, resL]; rfl) (by simp only [packL]; (first | refine SubS.v ?_ | refine SubS.tup ?_); ((repeat' (first | exact All2.nil | refine All2.cons ?_ ?_ | exact SubW.one (SubA.same _) | exact SubW.one (SubA.nil _) | exact SubW.one (SubA.ptr _) | refine SubW.agg ?_ | exact SubA.same _ | exact SubA.nil _ | exact SubA.ptr _)); first | done | fail)) (by simp only [go_sem]; repeat' (first | exact trivial | refine And.intro rfl ?_))))
theorem s9nb (cs : List Int) (room : Int) (Q : QF) (S : SF) (a b : Int) (ms : List (List Int)) (h : (badN cs.length a || badN cs.length b) = false) (hS : 0 < S a b) :
    Does Try.prog 9 [.one (.ptr 100000 0), .one (lI a), .one (lI b), .one (.row 100010)] (nK 100000 100001 100002 100003 cs room Q .none [] S ++ [(.vec 100010, .o (.nest 30 5 ms none) [])]) (.v (.one (lI 0))) (nK 100000 100001 100002 100003 cs room Q .none [] S ++ [(.vec 100010, .o (.nest 30 5 ms none) [])]) := by
  have kw23 : Pure Try.prog 23 [pInts cs, pInts [a, b]] (rInt 0) := by
    have := c23 cs [a, b] (by simp)
    rwa [ck2, h] at this
  refine does_of_body Try.func9 rfl (by simp [Try.f9]) rfl rfl ?_; rw [Try.ntmps9, Try.results9]; intro w0 G0 ρ0
  ((repeat' (first | refine thenL_n ?_ | refine thenL_r ?_ | refine thenL_x ?_ | refine blockL_n ?_ | refine blockL_r ?_ | refine blockL_x ?_ | refine blockL_y rfl ?_ | refine awp_seq ?_ | refine awp_block ?_ | refine awp_ret ?_ | refine awp_exit ?_ | refine awp_skip ?_ | exact absurd hcond (by decide) | (first | (refine awp_txt ?_; refine runs_to [19] (by simp only [go_sem, hS]; rfl) ?_) | (refine awp_draw mixed ?_; refine runs_to [19] (by simp only [go_sem, hS]; rfl) ?_)) | refine runD_nil ⟨by kernel_rfl, ?_⟩ | refine runD_nil ?_ | (refine runD_lend (kw23) cb23 (by rfl) (.inl (by simp only [go_sem, hS]; rfl)) (by simp only [go_sem, lendL, lendV, lendA, lendAs, hS]; rfl) (by ((repeat' (first | exact All2.nil | refine All2.cons ?_ ?_ | exact SubV.one (SubT.same _) | exact SubV.one (SubT.nil _) | refine SubV.agg ?_ | exact SubT.same _ | exact SubT.nil _)); first | done | fail)) (by rfl) ?_; refine runs_to [19] (by simp only [go_sem, hS]; rfl) ?_) | (refine awp_cond (b := _) (by simp only [go_sem, evB, hS]; rfl) (fun hcond => ?_) (fun hcond => ?_)))); all_goals (refine leavesD_ok (by first | exact Or.inl rfl | exact Or.inr rfl) (Imp.refl _) (by simp only [go_sem, resAll, resL, hS]; rfl) (by simp only [packL]; (first | refine SubS.v ?_ | refine SubS.tup ?_); ((repeat' (first | exact All2.nil | refine All2.cons ?_ ?_ | exact SubW.one (SubA.same _) | exact SubW.one (SubA.nil _) | exact SubW.one (SubA.ptr _) | refine SubW.agg ?_ | exact SubA.same _ | exact SubA.nil _ | exact SubA.ptr _)); first | done | fail)) (by simp only [go_sem, hS]; repeat' (first | exact trivial | refine And.intro rfl ?_))))
theorem s9nc (cs : List Int) (room : Int) (Q : QF) (S : SF) (a b : Int) (ms : List (List Int)) (h : (badN cs.length a || badN cs.length b) = false) (hS : ¬ 0 < S a b) (hr : 0 ≤ room) (hr2 : room ≤ 4096) (hq : ((Q a b).length : Int) ≤ room) (hm : room - (Q a b).length < (ms.length : Int)) :
    Does Try.prog 9 [.one (.ptr 100000 0), .one (lI a), .one (lI b), .one (.row 100010)] (nK 100000 100001 100002 100003 cs room Q .none [] S ++ [(.vec 100010, .o (.nest 30 5 ms none) [])]) (.v (.one (lI 61))) (nK 100000 100001 100002 100003 cs room Q .none [] S ++ [(.vec 100010, .o (.nest 30 5 ms none) [])]) := by
  have kw23 : Pure Try.prog 23 [pInts cs, pInts [a, b]] (rInt 0) := by
    have := c23 cs [a, b] (by simp)
    rwa [ck2, h] at this
  have hw := subW room (Q a b).length hr hr2 (by omega)
  refine does_of_body Try.func9 rfl (by simp [Try.f9]) rfl rfl ?_; rw [Try.ntmps9, Try.results9]; intro w0 G0 ρ0
  ((repeat' (first | refine thenL_n ?_ | refine thenL_r ?_ | refine thenL_x ?_ | refine blockL_n ?_ | refine blockL_r ?_ | refine blockL_x ?_ | refine blockL_y rfl ?_ | refine awp_seq ?_ | refine awp_block ?_ | refine awp_ret ?_ | refine awp_exit ?_ | refine awp_skip ?_ | exact absurd hcond (by decide) | (first | (refine awp_txt ?_; refine runs_to [19] (by simp only [go_sem, hS, hw, hm]; rfl) ?_) | (refine awp_draw mixed ?_; refine runs_to [19] (by simp only [go_sem, hS, hw, hm]; rfl) ?_)) | refine runD_nil ⟨by kernel_rfl, ?_⟩ | refine runD_nil ?_ | (refine runD_lend (kw23) cb23 (by rfl) (.inl (by simp only [go_sem, hS, hw, hm]; rfl)) (by simp only [go_sem, lendL, lendV, lendA, lendAs, hS, hw, hm]; rfl) (by ((repeat' (first | exact All2.nil | refine All2.cons ?_ ?_ | exact SubV.one (SubT.same _) | exact SubV.one (SubT.nil _) | refine SubV.agg ?_ | exact SubT.same _ | exact SubT.nil _)); first | done | fail)) (by rfl) ?_; refine runs_to [19] (by simp only [go_sem, hS, hw, hm]; rfl) ?_) | (refine awp_cond (b := _) (by simp only [go_sem, evB, hS, hw, hm]; rfl) (fun hcond => ?_) (fun hcond => ?_)))); all_goals (refine leavesD_ok (by first | exact Or.inl rfl | exact Or.inr rfl) (Imp.refl _) (by simp only [go_sem, resAll, resL, hS, hw, hm]; rfl) (by simp only [packL]; (first | refine SubS.v ?_ | refine SubS.tup ?_); ((repeat' (first | exact All2.nil | refine All2.cons ?_ ?_ | exact SubW.one (SubA.same _) | exact SubW.one (SubA.nil _) | exact SubW.one (SubA.ptr _) | refine SubW.agg ?_ | exact SubA.same _ | exact SubA.nil _ | exact SubA.ptr _)); first | done | fail)) (by simp only [go_sem, hS, hw, hm]; repeat' (first | exact trivial | refine And.intro rfl ?_))))
theorem s9nd (cs : List Int) (room : Int) (Q : QF) (S : SF) (a b : Int) (ms : List (List Int)) (h : (badN cs.length a || badN cs.length b) = false) (hS : ¬ 0 < S a b) (hr : 0 ≤ room) (hr2 : room ≤ 4096) (hq : ((Q a b).length : Int) ≤ room) (hm : ¬ room - (Q a b).length < (ms.length : Int))
    (hms : ∀ m, m ∈ ms → m.length ≤ 140737488355328) :
    Does Try.prog 9 [.one (.ptr 100000 0), .one (lI a), .one (lI b), .one (.row 100010)] (nK 100000 100001 100002 100003 cs room Q .none [] S ++ [(.vec 100010, .o (.nest 30 5 ms none) [])]) (.v (.one (lI 0))) (nK 100000 100001 100002 100003 cs room (updQ Q a b (Q a b ++ ms)) .none [] S ++ [(.vec 100010, .o (.nest 30 5 ms none) [])]) := by
  have kw23 : Pure Try.prog 23 [pInts cs, pInts [a, b]] (rInt 0) := by
    have := c23 cs [a, b] (by simp)
    rwa [ck2, h] at this
  have hw := subW room (Q a b).length hr hr2 (by omega)
  have hQ0 : updQ Q a b (Q a b ++ ms.take 0) = Q := by rw [List.take_zero, List.append_nil, updQ_id]
  refine does_of_body Try.func9 rfl (by simp [Try.f9]) rfl rfl ?_; rw [Try.ntmps9, Try.results9]; intro w0 G0 ρ0
  (repeat' (first | refine thenL_n ?_ | refine thenL_r ?_ | refine thenL_x ?_ | refine blockL_n ?_ | refine blockL_r ?_ | refine blockL_x ?_ | refine blockL_y rfl ?_ | refine awp_seq ?_ | refine awp_block ?_ | refine awp_ret ?_ | refine awp_exit ?_ | refine awp_skip ?_ | exact absurd hcond (by decide) | (first | (refine awp_txt ?_; refine runs_to [19] (by simp only [go_sem, hS, hw, hm]; rfl) ?_) | (refine awp_draw mixed ?_; refine runs_to [19] (by simp only [go_sem, hS, hw, hm]; rfl) ?_)) | refine runD_nil ⟨by kernel_rfl, ?_⟩ | refine runD_nil ?_ | (refine runD_lend (kw23) cb23 (by rfl) (.inl (by simp only [go_sem, hS, hw, hm]; rfl)) (by simp only [go_sem, lendL, lendV, lendA, lendAs, hS, hw, hm]; rfl) (by ((repeat' (first | exact All2.nil | refine All2.cons ?_ ?_ | exact SubV.one (SubT.same _) | exact SubV.one (SubT.nil _) | refine SubV.agg ?_ | exact SubT.same _ | exact SubT.nil _)); first | done | fail)) (by rfl) ?_; refine runs_to [19] (by simp only [go_sem, hS, hw, hm]; rfl) ?_) | (refine awp_cond (b := _) (by simp only [go_sem, evB, hS, hw, hm]; rfl) (fun hcond => ?_) (fun hcond => ?_))))
  refine awp_loop (fun i : Nat => (.slot 0, .s (.v (.one (.ptr 100000 0)))) :: (.slot 10, .s (.v (.one (.ptr 10 0)))) :: (.cell 10 0, .c (lI a)) :: (.cell 10 1, .c (lI b)) :: (.slot 51, sR 100010) :: (.slot 52, sI ms.length) :: (.slot 53, sI i) :: (nK 100000 100001 100002 100003 cs room (updQ Q a b (Q a b ++ ms.take i)) .none [] S ++ [(.vec 100010, .o (.nest 30 5 ms none) [])])) (fun i => i ≤ ms.length) (fun i => ms.length - i) 0 (Nat.zero_le _) (by refine Imp.of_in ?_; simp only [go_sem, updQ_id]) ?_
  intro i hi
  by_cases hlt : (i : Int) < ms.length
  · have hil : i < ms.length := by omega
    have hx : ms[i]? = some ms[i] := List.getElem?_eq_getElem hil
    have hts : ms.take (i + 1) = ms.take i ++ [ms[i]] := List.take_succ_eq_append_getElem hil
    have hml := hms ms[i] (List.getElem_mem _)
    have hlen : (ms.take i).length = i := by rw [List.length_take]; omega
    have hset : ms.set i ms[i] = ms := List.set_getElem_self hil
    generalize ms[i] = m at hx hts hml hset
    have hwi := up i (by omega)
    have hby : bytesOf (List.map (fun n => [T.lit (.int .u8 n)]) m) = some m := bytesOf_rows m
    have hc1 : (Q a b ++ ms.take i).length ≤ 140737488355327 := by rw [List.length_append, hlen]; omega
    have hc2 : ((Q a b ++ ms.take i).length + 1) * 24 ≤ 140737488355328 := by rw [List.length_append, hlen]; omega
    refine awp_imp (Imp.takeQE 100002 50 a b none (by simp only [go_sem]; rfl) (.inl ⟨rfl, rfl, rfl⟩) (by simp only [go_sem]) (by decide) (updQ_same Q a b (Q a b ++ ms.take i)) (by simp only [go_sem]; rfl)) ?_
    refine awp_imp (Imp.takeME 100010 45 i (by simp only [go_sem]; rfl) hx (by simp only [go_sem]) (by decide) (by simp only [go_sem]; rfl)) ?_
    (repeat' (first | refine thenL_n ?_ | refine thenL_r ?_ | refine thenL_x ?_ | refine blockL_n ?_ | refine blockL_r ?_ | refine blockL_x ?_ | refine blockL_y rfl ?_ | refine awp_seq ?_ | refine awp_block ?_ | refine awp_ret ?_ | refine awp_exit ?_ | refine awp_skip ?_ | exact absurd hcond (by decide) | (first | (refine awp_txt ?_; refine runs_to [] (by simp only [go_sem, hlt, hil, hx, hwi, hby, hc1, hc2]; rfl) ?_) | (refine awp_draw mixed ?_; refine runs_to [] (by simp only [go_sem, hlt, hil, hx, hwi, hby, hc1, hc2]; rfl) ?_)) | refine runD_nil ⟨by kernel_rfl, ?_⟩ | refine runD_nil ?_ | (refine runD_lend_own (o24 m hml) cb24 (by rfl) (by simp only [go_sem, hlt, hil, hx, hwi, hby, hc1, hc2]; rfl) (by simp only [go_sem, lendL, lendV, lendA, lendAs, hlt, hil, hx, hwi, hby, hc1, hc2]; rfl) (by ((repeat' (first | exact All2.nil | refine All2.cons ?_ ?_ | exact SubV.one (SubT.same _) | exact SubV.one (SubT.nil _) | refine SubV.agg ?_ | exact SubT.same _ | exact SubT.nil _)); first | done | fail)) (by simp only [go_sem, litRow, litT, List.all_map, Function.comp_def, hlt, hil, hx, hwi, hby, hc1, hc2] <;> simp [litRow, litT]) (by simp only [go_sem, hlt, hil, hx, hwi, hby, hc1, hc2]; rfl) ?_; refine runs_to [] (by simp only [go_sem, hlt, hil, hx, hwi, hby, hc1, hc2]; rfl) ?_) | (refine awp_cond (b := _) (by simp only [go_sem, evB, hlt, hil, hx, hwi, hby, hc1, hc2]; rfl) (fun hcond => ?_) (fun hcond => ?_))))
    have hQ' : updQ (updQ Q a b (Q a b ++ ms.take i)) a b (Q a b ++ (ms.take i ++ [m])) = updQ Q a b (Q a b ++ ms.take (i + 1)) := by rw [updQ_upd, hts]
    refine ⟨i + 1, by omega, by omega, Imp.trans (Imp.putQE 100002 67 .none (by simp only [go_sem] <;> rfl) (by simp only [go_sem] <;> rfl) (.inl ⟨rfl, rfl, rfl⟩) hQ' (by simp only [go_sem]; rfl)) (Imp.trans (Imp.putME 100010 45 i (by simp only [go_sem] <;> rfl) (by simp only [go_sem] <;> rfl) hset (by simp only [go_sem]; rfl)) (by refine Imp.of_in ?_; simp only [go_sem]))⟩
  · have hta : ms.take i = ms := by rw [show i = ms.length by omega, List.take_length]
    rw [hta]
    ((repeat' (first | refine thenL_n ?_ | refine thenL_r ?_ | refine thenL_x ?_ | refine blockL_n ?_ | refine blockL_r ?_ | refine blockL_x ?_ | refine blockL_y rfl ?_ | refine awp_seq ?_ | refine awp_block ?_ | refine awp_ret ?_ | refine awp_exit ?_ | refine awp_skip ?_ | exact absurd hcond (by decide) | (first | (refine awp_txt ?_; refine runs_to [] (by simp only [go_sem, hlt]; rfl) ?_) | (refine awp_draw mixed ?_; refine runs_to [] (by simp only [go_sem, hlt]; rfl) ?_)) | refine runD_nil ⟨by kernel_rfl, ?_⟩ | refine runD_nil ?_ | (refine awp_cond (b := _) (by simp only [go_sem, evB, hlt]; rfl) (fun hcond => ?_) (fun hcond => ?_)))); all_goals (refine leavesD_ok (by first | exact Or.inl rfl | exact Or.inr rfl) (Imp.refl _) (by simp only [go_sem, resAll, resL, hlt]; rfl) (by simp only [packL]; (first | refine SubS.v ?_ | refine SubS.tup ?_); ((repeat' (first | exact All2.nil | refine All2.cons ?_ ?_ | exact SubW.one (SubA.same _) | exact SubW.one (SubA.nil _) | exact SubW.one (SubA.ptr _) | refine SubW.agg ?_ | exact SubA.same _ | exact SubA.nil _ | exact SubA.ptr _)); first | done | fail)) (by simp only [go_sem, hlt]; repeat' (first | exact trivial | refine And.intro rfl ?_))))
end Go.Proofs.Ytidnlnnobegniaa
