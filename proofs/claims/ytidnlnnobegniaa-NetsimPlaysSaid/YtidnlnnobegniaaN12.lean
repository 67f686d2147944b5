import Derived.Test.YtidnlnnobegniaaN11
set_option maxHeartbeats 4000000
set_option maxRecDepth 10000
set_option linter.unusedVariables false
set_option linter.unusedSimpArgs false
namespace Go.Proofs.Ytidnlnnobegniaa
open Go.AM Go.RowKit
attribute [local irreducible] AWP thenL blockL AM.Leaves LeavesO RunD
attribute [local go_sem] act0 actN actX actFieldM actIndexM actLoadM actStoreM actAllocM actBoxM actBuildM actSliceM actRange
  actEntry actDelB bigT bigOp offHole sizeM keyC actMakeMap actLookup actMapEntry actEntryStore actMapUpdate
  actDelete actClear actLen2 actIndex2 actLoad2 actOne actApp2 actCall2 actMark isZI isZS isOwn
  QHole.at holeB runs stepR actF inF frzA frzW lastW act act1 actPick
  actNil actBin actUn actConv actExtract actFieldAddr actField actAlloc keysOf actBox actLoad treesOf
  actStore actIndex actLen actMx srcL actAppend actMake actBuild actBuildSlice boundL actSlice actCall
  actEqS isStruct isSlice actText actCopy litsOf kindsOK fieldsPlain eqAll eqop dstB dstN
  boolS litB litV sv binv unv lits takeC cellsR trees cellsW mxv
  repl parts fillAt fillRows V1.cs mkV ev evr AM.look put del applyL
  delD wrD undefS SV.to V1.to At.to keysL notIn freshKey PV.up PR.up entry
  entryV evp isAt actPtrNil capsL actFunc sameV sameVs pureCtx doc mkVar AM.Loc.key
  Cont.keys SV.keys V1.keys At.keys Cont.sub SV.sub V1.sub At.sub guardR argsL callR eq_self
  Nat.blt_eq Nat.blt Nat.ble Nat.beq_eq_true_eq beq_self_eq_true Array.toList List.map List.append_eq List.nil_append List.cons_append List.append_nil List.append_assoc
  Bool.and_eq_true decide_true decide_false decide_eq_true_eq Bool.not_true Bool.not_false reduceCtorEq if_true if_false ite_true ite_false reduceIte
  AM.Loc.slot.injEq AM.Loc.cell.injEq AM.Loc.vec.injEq List.getElem?_cons_zero List.getElem?_cons_succ List.getElem?_nil Option.map_some Option.map_none Option.toList List.flatMap_nil List.flatMap_cons Bool.and_true
  Bool.true_and Bool.and_false Bool.false_and Bool.true_eq_false Bool.false_eq_true Nat.reduceBEq Nat.reduceEqDiff bool_beq_tt bool_beq_ff bool_beq_tf bool_beq_ft List.length_cons
  List.length_nil List.drop List.take List.drop_zero List.take_zero List.all_cons List.all_nil Value.oneCell' Nat.zero_add Nat.reduceAdd Nat.reduceMul Nat.reduceSub
  Nat.reduceLT Nat.reduceLeDiff Int.reduceLT Int.reduceLE Int.reduceEq Int.reduceBEq Int.reduceBNe Int.reduceAdd Int.reduceSub Int.reduceMul Int.reduceNeg Int.reduceToNat
  Nat.succ_ne_zero List.replicate and_true true_and and_false false_and and_self ge_iff_le gt_iff_lt bne_self_eq_false List.zip_cons_cons List.zip_nil_left
  List.zip List.zipWith Int.natCast_nonneg Int.toNat_natCast List.getElem?_map List.length_map sT sI sB sR sP rV
  AllIn Int.toNat_zero Int.ofNat_zero Int.natCast_zero Nat.le_refl List.mapM_cons List.mapM_nil Option.bind_eq_bind Option.bind_some Option.bind_none Option.pure_def List.set_cons_zero
  List.set_cons_succ List.length_set cellsF_length cellsF_lit putF_one tt2 tt3 tt4 tt5 tt9 tt12 tt21
  tt22 tt23 tt24 tt30 tt39 tt40 tt41 tt42 tt43 tt44 tt45 tt49
  tt59 tt60 tt61 tt62 tt63 tt66 tt67 tt70 tt94 tt98 mo60 mo61
  mg22 mg3 zz22 zz3 bi50 bi51 bi52 bi54 im60 ho54
attribute [local go_sem] vlit rInt rBool vInts pInts vBy vvBy lI lB nK lN rB

theorem c11 : Pure Try.prog 11 [] (rBool true) := by
  obtain ⟨Q0, hQ0⟩ : ∃ Q0 : QF, Q0 = fun _ _ => [] := ⟨_, rfl⟩
  obtain ⟨S0, hS0⟩ : ∃ S0 : SF, S0 = fun _ _ => 0 := ⟨_, rfl⟩
  obtain ⟨cs, hcs⟩ : ∃ cs : List Int, cs = [0, 0] := ⟨_, rfl⟩
  have kw8 : Does Try.prog 8 [.one (lI 2), .one (lI 2)] [] (.tup [.one (.ptr 26 0), .one (lI 0)]) (nK 26 21 23 24 cs 2 Q0 .none [] S0) := by
    rw [hQ0, hS0, hcs]; exact s8 2 2 (by omega) (by omega)
  obtain ⟨Q1, hQ1⟩ : ∃ Q1 : QF, Q1 = updQ Q0 0 1 (Q0 0 1 ++ [[97], [98]]) := ⟨_, rfl⟩
  have h1 : Q1 0 1 = [[97], [98]] := by rw [hQ1, updQ_same, hQ0]; rfl
  have hb : (badN cs.length 0 || badN cs.length 1) = false := by rw [hcs]; rfl
  have kw9 : Does Try.prog 9 [.one (.ptr 100000 0), .one (lI 0), .one (lI 1), .one (.t (vvBy [[97], [98]]))] (nK 100000 100001 100002 100003 cs 2 Q0 .none [] S0) (.v (.one (lI 0))) (nK 100000 100001 100002 100003 cs 2 Q1 .none [] S0) := by
    rw [hQ1]
    exact s9d cs 2 Q0 S0 0 1 [[97], [98]] hb (by rw [hS0]; decide) (by omega) (by omega) (by rw [hQ0]; decide) (by rw [hQ0]; decide) (by intro m hm; simp at hm; rcases hm with rfl | rfl <;> decide)
  obtain ⟨Q2, hQ2⟩ : ∃ Q2 : QF, Q2 = updQ Q1 0 1 ((Q1 0 1).eraseIdx 1) := ⟨_, rfl⟩
  have kw12 : Does Try.prog 12 [.one (.ptr 100000 0), .one (lI 0), .one (lI 1), .one (lI 1)] (nK 100000 100001 100002 100003 cs 2 Q1 .none [] S0) (.tup [.one (.row 51), .one (lI 0)]) ((.vec 51, rB [98]) :: nK 100000 100001 100002 100003 cs 2 Q2 .none [] S0) := by
    rw [hQ2]
    exact s12c cs 2 Q1 S0 0 1 1 [98] hb (by rw [h1]; rfl) (by rw [h1]; decide)
  clear hQ0 hS0 hcs hQ1 h1 hb hQ2
  have hby : bytesOf [[T.lit (.int .u8 98)]] = some [98] := rfl
  have hst : ((strOfNums [98]).toList == (⟨#[98]⟩ : ByteArray).toList) = true := by
    have : strOfNums [98] = ⟨#[98]⟩ := rfl
    rw [this]; simp
  refine pure_of_body Try.func11 rfl (by simp [Try.f11]) ?_; rw [Try.ntmps11, Try.results11]; intro w0 G0
  (repeat' (first | refine thenL_n ?_ | refine thenL_r ?_ | refine thenL_x ?_ | refine blockL_n ?_ | refine blockL_r ?_ | refine blockL_x ?_ | refine blockL_y rfl ?_ | refine awp_seq ?_ | refine awp_block ?_ | refine awp_ret ?_ | refine awp_exit ?_ | refine awp_skip ?_ | exact absurd hcond (by decide) | ((fail_if_success (refine isReg 5 ?_)); first | (refine awp_txt ?_; refine runs_to [21] (by simp only [go_sem]; rfl) ?_) | (refine awp_draw mixed ?_; refine runs_to [21] (by simp only [go_sem]; rfl) ?_)) | refine runD_nil ⟨by kernel_rfl, ?_⟩ | refine runD_nil ?_ | (refine runD_does [] [26, 21, 23, 24] (kw8) cb8 (by rfl) (.inl (by simp only [go_sem]; rfl)) (by simp only [go_sem, ren, dels, adds, rn, At.rn, V1.rn, SV.rn, Cont.rn, Loc.rn, news, vals2, keys2, namesB, locKeys, injOn, noSlots, List.all, List.any]; rfl) (by first | kernel_rfl | rfl) (by simp only [go_sem, ren, dels, adds, rn, At.rn, V1.rn, SV.rn, Cont.rn, Loc.rn, news, vals2, keys2, namesB, locKeys, injOn, noSlots, List.all, List.any]; ((repeat' (first | exact All2.nil | refine All2.cons ?_ ?_ | exact SubW.one (SubA.same _) | exact SubW.one (SubA.nil _) | exact SubW.one (SubA.ptr _) | refine SubW.agg ?_ | exact SubA.same _ | exact SubA.nil _ | exact SubA.ptr _)); first | done | fail)) (by simp only [go_sem, ren, dels, adds, rn, At.rn, V1.rn, SV.rn, Cont.rn, Loc.rn, news, vals2, keys2, namesB, locKeys, injOn, noSlots, List.all, List.any]; (repeat' (first | exact trivial | refine And.intro rfl ?_)); first | done | fail) (by simp only [go_sem, ren, dels, adds, rn, At.rn, V1.rn, SV.rn, Cont.rn, Loc.rn, news, vals2, keys2, namesB, locKeys, injOn, noSlots, List.all, List.any]; (repeat' (first | exact trivial | refine And.intro rfl ?_)); first | done | fail) ?_; simp only [go_sem, ren, dels, adds, rn, At.rn, V1.rn, SV.rn, Cont.rn, Loc.rn, news, vals2, keys2, namesB, locKeys, injOn, noSlots, List.all, List.any]; refine runs_to [21] (by simp only [go_sem]; rfl) ?_) | (refine runD_does [(100000, 6), (100001, 3006), (100002, 6006), (100003, 9006)] [] (kw9) cb9 (by rfl) (.inl (by simp only [go_sem]; rfl)) (by simp only [go_sem, ren, dels, adds, rn, At.rn, V1.rn, SV.rn, Cont.rn, Loc.rn, news, vals2, keys2, namesB, locKeys, injOn, noSlots, List.all, List.any]; rfl) (by first | kernel_rfl | rfl) (by simp only [go_sem, ren, dels, adds, rn, At.rn, V1.rn, SV.rn, Cont.rn, Loc.rn, news, vals2, keys2, namesB, locKeys, injOn, noSlots, List.all, List.any]; ((repeat' (first | exact All2.nil | refine All2.cons ?_ ?_ | exact SubW.one (SubA.same _) | exact SubW.one (SubA.nil _) | exact SubW.one (SubA.ptr _) | refine SubW.agg ?_ | exact SubA.same _ | exact SubA.nil _ | exact SubA.ptr _)); first | done | fail)) (by simp only [go_sem, ren, dels, adds, rn, At.rn, V1.rn, SV.rn, Cont.rn, Loc.rn, news, vals2, keys2, namesB, locKeys, injOn, noSlots, List.all, List.any]; (repeat' (first | exact trivial | refine And.intro rfl ?_)); first | done | fail) (by simp only [go_sem, ren, dels, adds, rn, At.rn, V1.rn, SV.rn, Cont.rn, Loc.rn, news, vals2, keys2, namesB, locKeys, injOn, noSlots, List.all, List.any]; (repeat' (first | exact trivial | refine And.intro rfl ?_)); first | done | fail) ?_; simp only [go_sem, ren, dels, adds, rn, At.rn, V1.rn, SV.rn, Cont.rn, Loc.rn, news, vals2, keys2, namesB, locKeys, injOn, noSlots, List.all, List.any]; refine runs_to [21] (by simp only [go_sem]; rfl) ?_) | (refine runD_does [(100000, 6), (100001, 3006), (100002, 6006), (100003, 9006)] [51] (kw12) cb12 (by rfl) (.inl (by simp only [go_sem]; rfl)) (by simp only [go_sem, ren, dels, adds, rn, At.rn, V1.rn, SV.rn, Cont.rn, Loc.rn, news, vals2, keys2, namesB, locKeys, injOn, noSlots, List.all, List.any]; rfl) (by first | kernel_rfl | rfl) (by simp only [go_sem, ren, dels, adds, rn, At.rn, V1.rn, SV.rn, Cont.rn, Loc.rn, news, vals2, keys2, namesB, locKeys, injOn, noSlots, List.all, List.any]; ((repeat' (first | exact All2.nil | refine All2.cons ?_ ?_ | exact SubW.one (SubA.same _) | exact SubW.one (SubA.nil _) | exact SubW.one (SubA.ptr _) | refine SubW.agg ?_ | exact SubA.same _ | exact SubA.nil _ | exact SubA.ptr _)); first | done | fail)) (by simp only [go_sem, ren, dels, adds, rn, At.rn, V1.rn, SV.rn, Cont.rn, Loc.rn, news, vals2, keys2, namesB, locKeys, injOn, noSlots, List.all, List.any]; (repeat' (first | exact trivial | refine And.intro rfl ?_)); first | done | fail) (by simp only [go_sem, ren, dels, adds, rn, At.rn, V1.rn, SV.rn, Cont.rn, Loc.rn, news, vals2, keys2, namesB, locKeys, injOn, noSlots, List.all, List.any]; (repeat' (first | exact trivial | refine And.intro rfl ?_)); first | done | fail) ?_; simp only [go_sem, ren, dels, adds, rn, At.rn, V1.rn, SV.rn, Cont.rn, Loc.rn, news, vals2, keys2, namesB, locKeys, injOn, noSlots, List.all, List.any]; refine runs_to [21] (by simp only [go_sem]; rfl) ?_) | (refine awp_cond (b := _) (by simp only [go_sem, evB]; rfl) (fun hcond => ?_) (fun hcond => ?_))))
  refine awp_imp (Imp.freezeE 27 (by simp only [go_sem, fixL, Cont.fix, SV.fix, V1.fix, At.fix, cellsT, renL, Loc.ren, Cont.ren, SV.ren, V1.ren, At.ren, freezeL]; rfl) (by simp only [go_sem, fixL, Cont.fix, SV.fix, V1.fix, At.fix, cellsT, renL, Loc.ren, Cont.ren, SV.ren, V1.ren, At.ren, freezeL]; rfl)) ?_
  ((repeat' (first | refine thenL_n ?_ | refine thenL_r ?_ | refine thenL_x ?_ | refine blockL_n ?_ | refine blockL_r ?_ | refine blockL_x ?_ | refine blockL_y rfl ?_ | refine awp_seq ?_ | refine awp_block ?_ | refine awp_ret ?_ | refine awp_exit ?_ | refine awp_skip ?_ | exact absurd hcond (by decide) | (first | (refine awp_txt ?_; refine runs_to [] (by simp only [go_sem, hby, hst]; rfl) ?_) | (refine awp_draw mixed ?_; refine runs_to [] (by simp only [go_sem, hby, hst]; rfl) ?_)) | refine runD_nil ⟨by kernel_rfl, ?_⟩ | refine runD_nil ?_ | (refine awp_cond (b := _) (by simp only [go_sem, evB, hby, hst]; rfl) (fun hcond => ?_) (fun hcond => ?_)))); all_goals (refine leaves_ok (by first | exact Or.inl rfl | exact Or.inr rfl) (by simp only [go_sem, resAll, resL, packL, vecsOf, freezeAll, freezeL, hby, hst]; rfl) ?_; (first | refine SubR.v ?_ | refine SubR.tup ?_); ((repeat' (first | exact All2.nil | refine All2.cons ?_ ?_ | exact SubV.one (SubT.same _) | exact SubV.one (SubT.nil _) | refine SubV.agg ?_ | exact SubT.same _ | exact SubT.nil _)); first | done | fail)))
end Go.Proofs.Ytidnlnnobegniaa
