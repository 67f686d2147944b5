import Derived.Test.YtidnlnnobegniaaN6
set_option maxHeartbeats 4000000
set_option maxRecDepth 10000
set_option linter.unusedVariables false
set_option linter.unusedSimpArgs false
namespace Go.Proofs.Ytidnlnnobegniaa
open Go.AM Go.RowKit
attribute [local irreducible] AWP thenL blockL AM.Leaves LeavesO RunD
attribute [local go_sem] act0 actN actX actFieldM actIndexM actLoadM actStoreM actAllocM actBoxM actBuildM actSliceM actRange
  actEntry actDelB bigT bigOp offHole sizeM keyC actMakeMap actLookup actMapEntry actEntryStore actMapUpdate
  actDelete actClear actLen2 actIndex2 actLoad2 actOne actApp2 actCall2 actMark isZI isZS isOwn
  QHole.at holeB runs stepR actF inF frzA frzW lastW act act1 actPick
  actNil actBin actUn actConv actExtract actFieldAddr actField actAlloc keysOf actBox actLoad treesOf
  actStore actIndex actLen actMx srcL actAppend actMake actBuild actBuildSlice boundL actSlice actCall
  actEqS isStruct isSlice actText actCopy litsOf kindsOK fieldsPlain eqAll eqop dstB dstN
  boolS litB litV sv binv unv lits takeC cellsR trees cellsW mxv
  repl parts fillAt fillRows V1.cs mkV ev evr AM.look put del applyL
  delD wrD undefS SV.to V1.to At.to keysL notIn freshKey PV.up PR.up entry
  entryV evp isAt actPtrNil capsL actFunc sameV sameVs pureCtx doc mkVar AM.Loc.key
  Cont.keys SV.keys V1.keys At.keys Cont.sub SV.sub V1.sub At.sub guardR argsL callR eq_self
  Nat.blt_eq Nat.blt Nat.ble Nat.beq_eq_true_eq beq_self_eq_true Array.toList List.map List.append_eq List.nil_append List.cons_append List.append_nil List.append_assoc
  Bool.and_eq_true decide_true decide_false decide_eq_true_eq Bool.not_true Bool.not_false reduceCtorEq if_true if_false ite_true ite_false reduceIte
  AM.Loc.slot.injEq AM.Loc.cell.injEq AM.Loc.vec.injEq List.getElem?_cons_zero List.getElem?_cons_succ List.getElem?_nil Option.map_some Option.map_none Option.toList List.flatMap_nil List.flatMap_cons Bool.and_true
  Bool.true_and Bool.and_false Bool.false_and Bool.true_eq_false Bool.false_eq_true Nat.reduceBEq Nat.reduceEqDiff bool_beq_tt bool_beq_ff bool_beq_tf bool_beq_ft List.length_cons
  List.length_nil List.drop List.take List.drop_zero List.take_zero List.all_cons List.all_nil Value.oneCell' Nat.zero_add Nat.reduceAdd Nat.reduceMul Nat.reduceSub
  Nat.reduceLT Nat.reduceLeDiff Int.reduceLT Int.reduceLE Int.reduceEq Int.reduceBEq Int.reduceBNe Int.reduceAdd Int.reduceSub Int.reduceMul Int.reduceNeg Int.reduceToNat
  Nat.succ_ne_zero List.replicate and_true true_and and_false false_and and_self ge_iff_le gt_iff_lt bne_self_eq_false List.zip_cons_cons List.zip_nil_left
  List.zip List.zipWith Int.natCast_nonneg Int.toNat_natCast List.getElem?_map List.length_map sT sI sB sR sP rV
  AllIn Int.toNat_zero Int.ofNat_zero Int.natCast_zero Nat.le_refl List.mapM_cons List.mapM_nil Option.bind_eq_bind Option.bind_some Option.bind_none Option.pure_def List.set_cons_zero
  List.set_cons_succ List.length_set cellsF_length cellsF_lit putF_one tt2 tt3 tt4 tt5 tt9 tt12 tt21
  tt22 tt23 tt24 tt30 tt39 tt40 tt41 tt42 tt43 tt44 tt45 tt49
  tt59 tt60 tt61 tt62 tt63 tt66 tt67 tt70 tt94 tt98 mo60 mo61
  mg22 mg3 zz22 zz3 bi50 bi51 bi52 bi54 im60 ho54
attribute [local go_sem] vlit rInt rBool vInts pInts vBy vvBy lI lB nK

def lN : At := .t (.lit (.slice none 0 0))
attribute [local go_sem] lN
def rB (bs : List Int) : Cont := .r 1 5 (bs.map fun n => [.lit (.int .u8 n)])
attribute [local go_sem] rB

theorem s26a (cs : List Int) (room : Int) (Q : QF) (S : SF) (a b i : Int) (h : (badN cs.length a || badN cs.length b) = true) :
    Does Try.prog 26 [.one (.ptr 100000 0), .one (lI a), .one (lI b), .one (lI i)] (nK 100000 100001 100002 100003 cs room Q .none [] S) (.tup [.one lN, .one (lI 60)]) (nK 100000 100001 100002 100003 cs room Q .none [] S) := by
  have kw23 : Pure Try.prog 23 [pInts cs, pInts [a, b]] (rInt 60) := by
    have := c23 cs [a, b] (by simp)
    rwa [ck2, h] at this
  refine does_of_body Try.func26 rfl (by simp [Try.f26]) rfl rfl ?_; rw [Try.ntmps26, Try.results26]; intro w0 G0 ρ0
  ((repeat' (first | refine thenL_n ?_ | refine thenL_r ?_ | refine thenL_x ?_ | refine blockL_n ?_ | refine blockL_r ?_ | refine blockL_x ?_ | refine blockL_y rfl ?_ | refine awp_seq ?_ | refine awp_block ?_ | refine awp_ret ?_ | refine awp_exit ?_ | refine awp_skip ?_ | exact absurd hcond (by decide) | (first | (refine awp_txt ?_; refine runs_to [18] (by simp only [go_sem]; rfl) ?_) | (refine awp_draw mixed ?_; refine runs_to [18] (by simp only [go_sem]; rfl) ?_)) | refine runD_nil ⟨by kernel_rfl, ?_⟩ | refine runD_nil ?_ | (refine runD_lend (kw23) cb23 (by rfl) (.inl (by simp only [go_sem]; rfl)) (by simp only [go_sem, lendL, lendV, lendA, lendAs]; rfl) (by ((repeat' (first | exact All2.nil | refine All2.cons ?_ ?_ | exact SubV.one (SubT.same _) | exact SubV.one (SubT.nil _) | refine SubV.agg ?_ | exact SubT.same _ | exact SubT.nil _)); first | done | fail)) (by rfl) ?_; refine runs_to [18] (by simp only [go_sem]; rfl) ?_) | (refine awp_cond (b := _) (by simp only [go_sem, evB]; rfl) (fun hcond => ?_) (fun hcond => ?_)))); all_goals (refine leavesD_ok (by first | exact Or.inl rfl | exact Or.inr rfl) (Imp.refl _) (by simp only [go_sem, resAll, resL]; rfl) (by simp only [packL]; (first | refine SubS.v ?_ | refine SubS.tup ?_); ((repeat' (first | exact All2.nil | refine All2.cons ?_ ?_ | exact SubW.one (SubA.same _) | exact SubW.one (SubA.nil _) | exact SubW.one (SubA.ptr _) | refine SubW.agg ?_ | exact SubA.same _ | exact SubA.nil _ | exact SubA.ptr _)); first | done | fail)) (by simp only [go_sem]; repeat' (first | exact trivial | refine And.intro rfl ?_))))
theorem s26b (cs : List Int) (room : Int) (Q : QF) (S : SF) (a b i : Int) (h : (badN cs.length a || badN cs.length b) = false) (hi : i < 0 ∨ ((Q a b).length : Int) ≤ i) :
    Does Try.prog 26 [.one (.ptr 100000 0), .one (lI a), .one (lI b), .one (lI i)] (nK 100000 100001 100002 100003 cs room Q .none [] S) (.tup [.one lN, .one (lI 62)]) (nK 100000 100001 100002 100003 cs room Q .none [] S) := by
  have kw23 : Pure Try.prog 23 [pInts cs, pInts [a, b]] (rInt 0) := by
    have := c23 cs [a, b] (by simp)
    rwa [ck2, h] at this
  by_cases h1 : i < 0
  · refine does_of_body Try.func26 rfl (by simp [Try.f26]) rfl rfl ?_; rw [Try.ntmps26, Try.results26]; intro w0 G0 ρ0
    ((repeat' (first | refine thenL_n ?_ | refine thenL_r ?_ | refine thenL_x ?_ | refine blockL_n ?_ | refine blockL_r ?_ | refine blockL_x ?_ | refine blockL_y rfl ?_ | refine awp_seq ?_ | refine awp_block ?_ | refine awp_ret ?_ | refine awp_exit ?_ | refine awp_skip ?_ | exact absurd hcond (by decide) | (first | (refine awp_txt ?_; refine runs_to [18] (by simp only [go_sem, h1]; rfl) ?_) | (refine awp_draw mixed ?_; refine runs_to [18] (by simp only [go_sem, h1]; rfl) ?_)) | refine runD_nil ⟨by kernel_rfl, ?_⟩ | refine runD_nil ?_ | (refine runD_lend (kw23) cb23 (by rfl) (.inl (by simp only [go_sem, h1]; rfl)) (by simp only [go_sem, lendL, lendV, lendA, lendAs, h1]; rfl) (by ((repeat' (first | exact All2.nil | refine All2.cons ?_ ?_ | exact SubV.one (SubT.same _) | exact SubV.one (SubT.nil _) | refine SubV.agg ?_ | exact SubT.same _ | exact SubT.nil _)); first | done | fail)) (by rfl) ?_; refine runs_to [18] (by simp only [go_sem, h1]; rfl) ?_) | (refine awp_cond (b := _) (by simp only [go_sem, evB, h1]; rfl) (fun hcond => ?_) (fun hcond => ?_)))); all_goals (refine leavesD_ok (by first | exact Or.inl rfl | exact Or.inr rfl) (Imp.refl _) (by simp only [go_sem, resAll, resL, h1]; rfl) (by simp only [packL]; (first | refine SubS.v ?_ | refine SubS.tup ?_); ((repeat' (first | exact All2.nil | refine All2.cons ?_ ?_ | exact SubW.one (SubA.same _) | exact SubW.one (SubA.nil _) | exact SubW.one (SubA.ptr _) | refine SubW.agg ?_ | exact SubA.same _ | exact SubA.nil _ | exact SubA.ptr _)); first | done | fail)) (by simp only [go_sem, h1]; repeat' (first | exact trivial | refine And.intro rfl ?_))))
  · have h2 : ((Q a b).length : Int) ≤ i := by omega
    refine does_of_body Try.func26 rfl (by simp [Try.f26]) rfl rfl ?_; rw [Try.ntmps26, Try.results26]; intro w0 G0 ρ0
    ((repeat' (first | refine thenL_n ?_ | refine thenL_r ?_ | refine thenL_x ?_ | refine blockL_n ?_ | refine blockL_r ?_ | refine blockL_x ?_ | refine blockL_y rfl ?_ | refine awp_seq ?_ | refine awp_block ?_ | refine awp_ret ?_ | refine awp_exit ?_ | refine awp_skip ?_ | exact absurd hcond (by decide) | (first | (refine awp_txt ?_; refine runs_to [18] (by simp only [go_sem, h1, h2]; rfl) ?_) | (refine awp_draw mixed ?_; refine runs_to [18] (by simp only [go_sem, h1, h2]; rfl) ?_)) | refine runD_nil ⟨by kernel_rfl, ?_⟩ | refine runD_nil ?_ | (refine runD_lend (kw23) cb23 (by rfl) (.inl (by simp only [go_sem, h1, h2]; rfl)) (by simp only [go_sem, lendL, lendV, lendA, lendAs, h1, h2]; rfl) (by ((repeat' (first | exact All2.nil | refine All2.cons ?_ ?_ | exact SubV.one (SubT.same _) | exact SubV.one (SubT.nil _) | refine SubV.agg ?_ | exact SubT.same _ | exact SubT.nil _)); first | done | fail)) (by rfl) ?_; refine runs_to [18] (by simp only [go_sem, h1, h2]; rfl) ?_) | (refine awp_cond (b := _) (by simp only [go_sem, evB, h1, h2]; rfl) (fun hcond => ?_) (fun hcond => ?_)))); all_goals (refine leavesD_ok (by first | exact Or.inl rfl | exact Or.inr rfl) (Imp.refl _) (by simp only [go_sem, resAll, resL, h1, h2]; rfl) (by simp only [packL]; (first | refine SubS.v ?_ | refine SubS.tup ?_); ((repeat' (first | exact All2.nil | refine All2.cons ?_ ?_ | exact SubW.one (SubA.same _) | exact SubW.one (SubA.nil _) | exact SubW.one (SubA.ptr _) | refine SubW.agg ?_ | exact SubA.same _ | exact SubA.nil _ | exact SubA.ptr _)); first | done | fail)) (by simp only [go_sem, h1, h2]; repeat' (first | exact trivial | refine And.intro rfl ?_))))
theorem s26c (cs : List Int) (room : Int) (Q : QF) (S : SF) (a b : Int) (i : Nat) (m : List Int) (h : (badN cs.length a || badN cs.length b) = false) (hi : (Q a b)[i]? = some m) :
    Does Try.prog 26 [.one (.ptr 100000 0), .one (lI a), .one (lI b), .one (lI i)] (nK 100000 100001 100002 100003 cs room Q .none [] S) (.tup [.one (.row 51), .one (lI 0)]) ((.vec 51, rB m) :: nK 100000 100001 100002 100003 cs room Q (.msg a b i) [51] S) := by
  have kw23 : Pure Try.prog 23 [pInts cs, pInts [a, b]] (rInt 0) := by
    have := c23 cs [a, b] (by simp)
    rwa [ck2, h] at this
  have hil : i < (Q a b).length := (List.getElem?_eq_some_iff.1 hi).1
  have h1 : ¬ (i : Int) < 0 := by omega
  have h2 : ¬ ((Q a b).length : Int) ≤ i := by omega
  refine does_of_body Try.func26 rfl (by simp [Try.f26]) rfl rfl ?_; rw [Try.ntmps26, Try.results26]; intro w0 G0 ρ0
  (repeat' (first | refine thenL_n ?_ | refine thenL_r ?_ | refine thenL_x ?_ | refine blockL_n ?_ | refine blockL_r ?_ | refine blockL_x ?_ | refine blockL_y rfl ?_ | refine awp_seq ?_ | refine awp_block ?_ | refine awp_ret ?_ | refine awp_exit ?_ | refine awp_skip ?_ | exact absurd hcond (by decide) | ((fail_if_success (refine isReg 4 ?_)); first | (refine awp_txt ?_; refine runs_to [18] (by simp only [go_sem]; rfl) ?_) | (refine awp_draw mixed ?_; refine runs_to [18] (by simp only [go_sem]; rfl) ?_)) | refine runD_nil ⟨by kernel_rfl, ?_⟩ | refine runD_nil ?_ | (refine runD_lend (kw23) cb23 (by rfl) (.inl (by simp only [go_sem]; rfl)) (by simp only [go_sem, lendL, lendV, lendA, lendAs]; rfl) (by ((repeat' (first | exact All2.nil | refine All2.cons ?_ ?_ | exact SubV.one (SubT.same _) | exact SubV.one (SubT.nil _) | refine SubV.agg ?_ | exact SubT.same _ | exact SubT.nil _)); first | done | fail)) (by rfl) ?_; refine runs_to [18] (by simp only [go_sem]; rfl) ?_) | (refine awp_cond (b := _) (by simp only [go_sem, evB]; rfl) (fun hcond => ?_) (fun hcond => ?_))))
  refine awp_imp (Imp.takeQE 100002 50 a b none (by simp only [go_sem] <;> rfl) (.inl ⟨rfl, rfl, rfl⟩) (by simp only [go_sem]) (by decide) rfl (by simp only [go_sem]; rfl)) ?_
  (repeat' (first | refine thenL_n ?_ | refine thenL_r ?_ | refine thenL_x ?_ | refine blockL_n ?_ | refine blockL_r ?_ | refine blockL_x ?_ | refine blockL_y rfl ?_ | refine awp_seq ?_ | refine awp_block ?_ | refine awp_ret ?_ | refine awp_exit ?_ | refine awp_skip ?_ | exact absurd hcond (by decide) | ((fail_if_success (refine isReg 7 ?_)); first | (refine awp_txt ?_; refine runs_to [] (by simp only [go_sem, h1, h2]; rfl) ?_) | (refine awp_draw mixed ?_; refine runs_to [] (by simp only [go_sem, h1, h2]; rfl) ?_)) | refine runD_nil ⟨by kernel_rfl, ?_⟩ | refine runD_nil ?_ | (refine awp_cond (b := _) (by simp only [go_sem, evB, h1, h2]; rfl) (fun hcond => ?_) (fun hcond => ?_))))
  refine awp_imp (Imp.takeME 50 51 i (by simp only [go_sem] <;> rfl) hi (by simp only [go_sem]) (by decide) (by simp only [go_sem]; rfl)) ?_
  refine awp_txt ?_
  refine runs_to [] (by simp only [go_sem, h1, h2, hil]; rfl) ?_
  refine runD_nil ?_
  refine thenL_n ?_
  refine awp_imp (Imp.putQE 100002 50 (.msg a b i) (by simp only [go_sem] <;> rfl) (by simp only [go_sem] <;> rfl) (.inr ⟨i, 51, rfl, rfl, rfl⟩) (updQ_id Q a b) (by simp only [go_sem]; rfl)) ?_
  ((repeat' (first | refine thenL_n ?_ | refine thenL_r ?_ | refine thenL_x ?_ | refine blockL_n ?_ | refine blockL_r ?_ | refine blockL_x ?_ | refine blockL_y rfl ?_ | refine awp_seq ?_ | refine awp_block ?_ | refine awp_ret ?_ | refine awp_exit ?_ | refine awp_skip ?_ | exact absurd hcond (by decide) | (first | (refine awp_txt ?_; refine runs_to [] (by simp only [go_sem]; rfl) ?_) | (refine awp_draw mixed ?_; refine runs_to [] (by simp only [go_sem]; rfl) ?_)) | refine runD_nil ⟨by kernel_rfl, ?_⟩ | refine runD_nil ?_ | (refine awp_cond (b := _) (by simp only [go_sem, evB]; rfl) (fun hcond => ?_) (fun hcond => ?_)))); all_goals (refine leavesD_ok (by first | exact Or.inl rfl | exact Or.inr rfl) (Imp.refl _) (by simp only [go_sem, resAll, resL]; rfl) (by simp only [packL]; (first | refine SubS.v ?_ | refine SubS.tup ?_); ((repeat' (first | exact All2.nil | refine All2.cons ?_ ?_ | exact SubW.one (SubA.same _) | exact SubW.one (SubA.nil _) | exact SubW.one (SubA.ptr _) | refine SubW.agg ?_ | exact SubA.same _ | exact SubA.nil _ | exact SubA.ptr _)); first | done | fail)) (by simp only [go_sem]; repeat' (first | exact trivial | refine And.intro rfl ?_))))
end Go.Proofs.Ytidnlnnobegniaa
