import Derived.Test.YtidnlnnobegniaaPB
set_option maxHeartbeats 4000000
set_option maxRecDepth 10000
set_option linter.unusedVariables false
set_option linter.unusedSimpArgs false
namespace Go.Proofs.Ytidnlnnobegniaa
open Go.AM Go.RowKit
attribute [local irreducible] AWP thenL blockL AM.Leaves LeavesO RunD
attribute [local go_sem] act0 actN actX actFieldM actIndexM actLoadM actStoreM actAllocM actBoxM actBuildM actSliceM actRange
  actEntry actDelB bigT bigOp offHole sizeM keyC actMakeMap actLookup actMapEntry actEntryStore actMapUpdate
  actDelete actClear actLen2 actIndex2 actLoad2 actOne actApp2 actCall2 actMark isZI isZS isOwn
  QHole.at holeB runs stepR actF inF frzA frzW lastW act act1 actPick
  actNil actBin actUn actConv actExtract actFieldAddr actField actAlloc keysOf actBox actLoad treesOf
  actStore actIndex actLen actMx srcL actAppend actMake actBuild actBuildSlice boundL actSlice actCall
  actEqS isStruct isSlice actText actCopy litsOf kindsOK fieldsPlain eqAll eqop dstB dstN
  boolS litB litV sv binv unv lits takeC cellsR trees cellsW mxv
  repl parts fillAt fillRows V1.cs mkV ev evr AM.look put del applyL
  delD wrD undefS SV.to V1.to At.to keysL notIn freshKey PV.up PR.up entry
  entryV evp isAt actPtrNil capsL actFunc sameV sameVs pureCtx doc mkVar AM.Loc.key
  Cont.keys SV.keys V1.keys At.keys Cont.sub SV.sub V1.sub At.sub guardR argsL callR eq_self
  Nat.blt_eq Nat.blt Nat.ble Nat.beq_eq_true_eq beq_self_eq_true Array.toList List.map List.append_eq List.nil_append List.cons_append List.append_nil List.append_assoc
  Bool.and_eq_true decide_true decide_false decide_eq_true_eq Bool.not_true Bool.not_false reduceCtorEq if_true if_false ite_true ite_false reduceIte
  AM.Loc.slot.injEq AM.Loc.cell.injEq AM.Loc.vec.injEq List.getElem?_cons_zero List.getElem?_cons_succ List.getElem?_nil Option.map_some Option.map_none Option.toList List.flatMap_nil List.flatMap_cons Bool.and_true
  Bool.true_and Bool.and_false Bool.false_and Bool.true_eq_false Bool.false_eq_true Nat.reduceBEq Nat.reduceEqDiff bool_beq_tt bool_beq_ff bool_beq_tf bool_beq_ft List.length_cons
  List.length_nil List.drop List.take List.drop_zero List.take_zero List.all_cons List.all_nil Value.oneCell' Nat.zero_add Nat.reduceAdd Nat.reduceMul Nat.reduceSub
  Nat.reduceLT Nat.reduceLeDiff Int.reduceLT Int.reduceLE Int.reduceEq Int.reduceBEq Int.reduceBNe Int.reduceAdd Int.reduceSub Int.reduceMul Int.reduceNeg Int.reduceToNat
  Nat.succ_ne_zero List.replicate and_true true_and and_false false_and and_self ge_iff_le gt_iff_lt bne_self_eq_false List.zip_cons_cons List.zip_nil_left
  List.zip List.zipWith Int.natCast_nonneg Int.toNat_natCast List.getElem?_map List.length_map sT sI sB sR sP rV
  AllIn Int.toNat_zero Int.ofNat_zero Int.natCast_zero Nat.le_refl List.mapM_cons List.mapM_nil Option.bind_eq_bind Option.bind_some Option.bind_none Option.pure_def List.set_cons_zero
  List.set_cons_succ List.length_set cellsF_length cellsF_lit putF_one tt2 tt3 tt4 tt5 tt9 tt12 tt21
  tt22 tt23 tt24 tt30 tt39 tt40 tt41 tt42 tt43 tt44 tt45 tt49
  tt59 tt60 tt61 tt62 tt63 tt66 tt67 tt70 tt94 tt98 mo60 mo61
  mg22 mg3 zz22 zz3 bi50 bi51 bi52 bi54 im60 ho54
attribute [local go_sem] vlit rInt rBool vInts pInts vBy vvBy lI lB nK lN rB msgL rK netF_0 netF_1

theorem s30a (N room : Int) (M : List MSG) (S : Int → Int → Bool) (clk : List Int) (a b n : Int) (h : badD N a b = true) :
    Does Try.prog 30 [.one (.vptr 100020 1 0 0), .one (lI a), .one (lI b), .one (lI n)] (rK 100020 100021 N room M S clk) (.v (.one (lI 60))) (rK 100020 40 N room M S clk) := by
  have kw38 := s38 N room M S clk a b
  rw [h] at kw38
  refine does_of_body Try.func30 rfl (by simp [Try.f30]) rfl rfl ?_; rw [Try.ntmps30, Try.results30]; intro w0 G0 ρ0
  (repeat' (first | refine thenL_n ?_ | refine thenL_r ?_ | refine thenL_x ?_ | refine blockL_n ?_ | refine blockL_r ?_ | refine blockL_x ?_ | refine blockL_y rfl ?_ | refine awp_seq ?_ | refine awp_block ?_ | refine awp_ret ?_ | refine awp_exit ?_ | refine awp_skip ?_ | exact absurd hcond (by decide) | (first | (refine awp_txt ?_; refine runs_to [] (by simp only [go_sem]; rfl) ?_) | (refine awp_draw mixed ?_; refine runs_to [] (by simp only [go_sem]; rfl) ?_)) | refine runD_nil ⟨by kernel_rfl, ?_⟩ | refine runD_nil ?_ | (refine runD_looks [(100020, 100020), (100021, 100021)] (kw38) cb38 (by rfl) (.inl (by simp only [go_sem]; rfl)) (by first | kernel_rfl | rfl) (by simp only [go_sem, ren, dels, adds, rn, At.rn, V1.rn, SV.rn, Cont.rn, Loc.rn, news, vals2, keys2, namesB, locKeys, injOn, noSlots, List.all, List.any]; ((repeat' (first | exact All2.nil | refine All2.cons ?_ ?_ | exact SubW.one (SubA.same _) | exact SubW.one (SubA.nil _) | exact SubW.one (SubA.ptr _) | refine SubW.agg ?_ | exact SubA.same _ | exact SubA.nil _ | exact SubA.ptr _)); first | done | fail)) (by simp only [go_sem, ren, dels, adds, rn, At.rn, V1.rn, SV.rn, Cont.rn, Loc.rn, news, vals2, keys2, namesB, locKeys, injOn, noSlots, List.all, List.any]; (repeat' (first | exact trivial | refine And.intro rfl ?_)); first | done | fail) (by simp only [go_sem, ren, dels, adds, rn, At.rn, V1.rn, SV.rn, Cont.rn, Loc.rn, news, vals2, keys2, namesB, locKeys, injOn, noSlots, List.all, List.any]; (repeat' (first | exact trivial | refine And.intro rfl ?_)); first | done | fail) ?_; simp only [go_sem, ren, dels, adds, rn, At.rn, V1.rn, SV.rn, Cont.rn, Loc.rn, news, vals2, keys2, namesB, locKeys, injOn, noSlots, List.all, List.any]; refine runs_to [] (by simp only [go_sem]; rfl) ?_) | (refine awp_cond (b := _) (by simp only [go_sem, evB]; rfl) (fun hcond => ?_) (fun hcond => ?_))))
  refine leavesD_ok (by first | exact Or.inl rfl | exact Or.inr rfl) (Imp.takeE 100021 40 (by simp only [go_sem, renL, Loc.ren, Cont.ren, SV.ren, V1.ren, At.ren]) (by simp only [go_sem, renL, Loc.ren, Cont.ren, SV.ren, V1.ren, At.ren]; rfl) (by decide) (by simp only [go_sem, renL, Loc.ren, Cont.ren, SV.ren, V1.ren, At.ren]; rfl)) (by simp only [go_sem, resAll, resL]; rfl) (by simp only [packL]; (first | refine SubS.v ?_ | refine SubS.tup ?_); ((repeat' (first | exact All2.nil | refine All2.cons ?_ ?_ | exact SubW.one (SubA.same _) | exact SubW.one (SubA.nil _) | exact SubW.one (SubA.ptr _) | refine SubW.agg ?_ | exact SubA.same _ | exact SubA.nil _ | exact SubA.ptr _)); first | done | fail)) (by simp only [go_sem]; repeat' (first | exact trivial | refine And.intro rfl ?_))
theorem s30b (N room : Int) (M : List MSG) (S : Int → Int → Bool) (clk : List Int) (a b n : Int) (h : badD N a b = false) (hM : M.length ≤ 8388608) (hn : n < 0 ∨ (cntM M a b : Int) ≤ n) :
    Does Try.prog 30 [.one (.vptr 100020 1 0 0), .one (lI a), .one (lI b), .one (lI n)] (rK 100020 100021 N room M S clk) (.v (.one (lI 62))) (rK 100020 40 N room M S clk) := by
  have kw38 := s38 N room M S clk a b
  have kw39 := s39 N room M S clk a b (by omega)
  rw [h] at kw38
  by_cases h0 : n < 0
  · refine does_of_body Try.func30 rfl (by simp [Try.f30]) rfl rfl ?_; rw [Try.ntmps30, Try.results30]; intro w0 G0 ρ0
    (repeat' (first | refine thenL_n ?_ | refine thenL_r ?_ | refine thenL_x ?_ | refine blockL_n ?_ | refine blockL_r ?_ | refine blockL_x ?_ | refine blockL_y rfl ?_ | refine awp_seq ?_ | refine awp_block ?_ | refine awp_ret ?_ | refine awp_exit ?_ | refine awp_skip ?_ | exact absurd hcond (by decide) | (first | (refine awp_txt ?_; refine runs_to [] (by simp only [go_sem, h0]; rfl) ?_) | (refine awp_draw mixed ?_; refine runs_to [] (by simp only [go_sem, h0]; rfl) ?_)) | refine runD_nil ⟨by kernel_rfl, ?_⟩ | refine runD_nil ?_ | (refine runD_looks [(100020, 100020), (100021, 100021)] (kw38) cb38 (by rfl) (.inl (by simp only [go_sem, h0]; rfl)) (by first | kernel_rfl | rfl) (by simp only [go_sem, ren, dels, adds, rn, At.rn, V1.rn, SV.rn, Cont.rn, Loc.rn, news, vals2, keys2, namesB, locKeys, injOn, noSlots, List.all, List.any, h0]; ((repeat' (first | exact All2.nil | refine All2.cons ?_ ?_ | exact SubW.one (SubA.same _) | exact SubW.one (SubA.nil _) | exact SubW.one (SubA.ptr _) | refine SubW.agg ?_ | exact SubA.same _ | exact SubA.nil _ | exact SubA.ptr _)); first | done | fail)) (by simp only [go_sem, ren, dels, adds, rn, At.rn, V1.rn, SV.rn, Cont.rn, Loc.rn, news, vals2, keys2, namesB, locKeys, injOn, noSlots, List.all, List.any, h0]; (repeat' (first | exact trivial | refine And.intro rfl ?_)); first | done | fail) (by simp only [go_sem, ren, dels, adds, rn, At.rn, V1.rn, SV.rn, Cont.rn, Loc.rn, news, vals2, keys2, namesB, locKeys, injOn, noSlots, List.all, List.any, h0]; (repeat' (first | exact trivial | refine And.intro rfl ?_)); first | done | fail) ?_; simp only [go_sem, ren, dels, adds, rn, At.rn, V1.rn, SV.rn, Cont.rn, Loc.rn, news, vals2, keys2, namesB, locKeys, injOn, noSlots, List.all, List.any, h0]; refine runs_to [] (by simp only [go_sem, h0]; rfl) ?_) | (refine awp_cond (b := _) (by simp only [go_sem, evB, h0]; rfl) (fun hcond => ?_) (fun hcond => ?_))))
    refine leavesD_ok (by first | exact Or.inl rfl | exact Or.inr rfl) (Imp.takeE 100021 40 (by simp only [go_sem, renL, Loc.ren, Cont.ren, SV.ren, V1.ren, At.ren]) (by simp only [go_sem, renL, Loc.ren, Cont.ren, SV.ren, V1.ren, At.ren]; rfl) (by decide) (by simp only [go_sem, renL, Loc.ren, Cont.ren, SV.ren, V1.ren, At.ren]; rfl)) (by simp only [go_sem, resAll, resL]; rfl) (by simp only [packL]; (first | refine SubS.v ?_ | refine SubS.tup ?_); ((repeat' (first | exact All2.nil | refine All2.cons ?_ ?_ | exact SubW.one (SubA.same _) | exact SubW.one (SubA.nil _) | exact SubW.one (SubA.ptr _) | refine SubW.agg ?_ | exact SubA.same _ | exact SubA.nil _ | exact SubA.ptr _)); first | done | fail)) (by simp only [go_sem]; repeat' (first | exact trivial | refine And.intro rfl ?_))
  · have h1 : (cntM M a b : Int) ≤ n := by omega
    refine does_of_body Try.func30 rfl (by simp [Try.f30]) rfl rfl ?_; rw [Try.ntmps30, Try.results30]; intro w0 G0 ρ0
    (repeat' (first | refine thenL_n ?_ | refine thenL_r ?_ | refine thenL_x ?_ | refine blockL_n ?_ | refine blockL_r ?_ | refine blockL_x ?_ | refine blockL_y rfl ?_ | refine awp_seq ?_ | refine awp_block ?_ | refine awp_ret ?_ | refine awp_exit ?_ | refine awp_skip ?_ | exact absurd hcond (by decide) | (first | (refine awp_txt ?_; refine runs_to [] (by simp only [go_sem, h0, h1]; rfl) ?_) | (refine awp_draw mixed ?_; refine runs_to [] (by simp only [go_sem, h0, h1]; rfl) ?_)) | refine runD_nil ⟨by kernel_rfl, ?_⟩ | refine runD_nil ?_ | (refine runD_looks [(100020, 100020), (100021, 100021)] (kw38) cb38 (by rfl) (.inl (by simp only [go_sem, h0, h1]; rfl)) (by first | kernel_rfl | rfl) (by simp only [go_sem, ren, dels, adds, rn, At.rn, V1.rn, SV.rn, Cont.rn, Loc.rn, news, vals2, keys2, namesB, locKeys, injOn, noSlots, List.all, List.any, h0, h1]; ((repeat' (first | exact All2.nil | refine All2.cons ?_ ?_ | exact SubW.one (SubA.same _) | exact SubW.one (SubA.nil _) | exact SubW.one (SubA.ptr _) | refine SubW.agg ?_ | exact SubA.same _ | exact SubA.nil _ | exact SubA.ptr _)); first | done | fail)) (by simp only [go_sem, ren, dels, adds, rn, At.rn, V1.rn, SV.rn, Cont.rn, Loc.rn, news, vals2, keys2, namesB, locKeys, injOn, noSlots, List.all, List.any, h0, h1]; (repeat' (first | exact trivial | refine And.intro rfl ?_)); first | done | fail) (by simp only [go_sem, ren, dels, adds, rn, At.rn, V1.rn, SV.rn, Cont.rn, Loc.rn, news, vals2, keys2, namesB, locKeys, injOn, noSlots, List.all, List.any, h0, h1]; (repeat' (first | exact trivial | refine And.intro rfl ?_)); first | done | fail) ?_; simp only [go_sem, ren, dels, adds, rn, At.rn, V1.rn, SV.rn, Cont.rn, Loc.rn, news, vals2, keys2, namesB, locKeys, injOn, noSlots, List.all, List.any, h0, h1]; refine runs_to [] (by simp only [go_sem, h0, h1]; rfl) ?_) | (refine runD_looks [(100020, 100020), (100021, 100021)] (kw39) cb39 (by rfl) (.inl (by simp only [go_sem, h0, h1]; rfl)) (by first | kernel_rfl | rfl) (by simp only [go_sem, ren, dels, adds, rn, At.rn, V1.rn, SV.rn, Cont.rn, Loc.rn, news, vals2, keys2, namesB, locKeys, injOn, noSlots, List.all, List.any, h0, h1]; ((repeat' (first | exact All2.nil | refine All2.cons ?_ ?_ | exact SubW.one (SubA.same _) | exact SubW.one (SubA.nil _) | exact SubW.one (SubA.ptr _) | refine SubW.agg ?_ | exact SubA.same _ | exact SubA.nil _ | exact SubA.ptr _)); first | done | fail)) (by simp only [go_sem, ren, dels, adds, rn, At.rn, V1.rn, SV.rn, Cont.rn, Loc.rn, news, vals2, keys2, namesB, locKeys, injOn, noSlots, List.all, List.any, h0, h1]; (repeat' (first | exact trivial | refine And.intro rfl ?_)); first | done | fail) (by simp only [go_sem, ren, dels, adds, rn, At.rn, V1.rn, SV.rn, Cont.rn, Loc.rn, news, vals2, keys2, namesB, locKeys, injOn, noSlots, List.all, List.any, h0, h1]; (repeat' (first | exact trivial | refine And.intro rfl ?_)); first | done | fail) ?_; simp only [go_sem, ren, dels, adds, rn, At.rn, V1.rn, SV.rn, Cont.rn, Loc.rn, news, vals2, keys2, namesB, locKeys, injOn, noSlots, List.all, List.any, h0, h1]; refine runs_to [] (by simp only [go_sem, h0, h1]; rfl) ?_) | (refine awp_cond (b := _) (by simp only [go_sem, evB, h0, h1]; rfl) (fun hcond => ?_) (fun hcond => ?_))))
    refine leavesD_ok (by first | exact Or.inl rfl | exact Or.inr rfl) (Imp.takeE 100021 40 (by simp only [go_sem, renL, Loc.ren, Cont.ren, SV.ren, V1.ren, At.ren]) (by simp only [go_sem, renL, Loc.ren, Cont.ren, SV.ren, V1.ren, At.ren]; rfl) (by decide) (by simp only [go_sem, renL, Loc.ren, Cont.ren, SV.ren, V1.ren, At.ren]; rfl)) (by simp only [go_sem, resAll, resL]; rfl) (by simp only [packL]; (first | refine SubS.v ?_ | refine SubS.tup ?_); ((repeat' (first | exact All2.nil | refine All2.cons ?_ ?_ | exact SubW.one (SubA.same _) | exact SubW.one (SubA.nil _) | exact SubW.one (SubA.ptr _) | refine SubW.agg ?_ | exact SubA.same _ | exact SubA.nil _ | exact SubA.ptr _)); first | done | fail)) (by simp only [go_sem]; repeat' (first | exact trivial | refine And.intro rfl ?_))
theorem s30c (N room : Int) (M : List MSG) (S : Int → Int → Bool) (clk : List Int) (a b n : Int) (h : badD N a b = false) (hM : M.length ≤ 8388608) (h0 : ¬ n < 0) (h1 : ¬ (cntM M a b : Int) ≤ n) (h2 : room ≤ (cntM M a b : Int)) :
    Does Try.prog 30 [.one (.vptr 100020 1 0 0), .one (lI a), .one (lI b), .one (lI n)] (rK 100020 100021 N room M S clk) (.v (.one (lI 61))) (rK 100020 40 N room M S clk) := by
  have kw38 := s38 N room M S clk a b
  have kw39 := s39 N room M S clk a b (by omega)
  rw [h] at kw38
  refine does_of_body Try.func30 rfl (by simp [Try.f30]) rfl rfl ?_; rw [Try.ntmps30, Try.results30]; intro w0 G0 ρ0
  (repeat' (first | refine thenL_n ?_ | refine thenL_r ?_ | refine thenL_x ?_ | refine blockL_n ?_ | refine blockL_r ?_ | refine blockL_x ?_ | refine blockL_y rfl ?_ | refine awp_seq ?_ | refine awp_block ?_ | refine awp_ret ?_ | refine awp_exit ?_ | refine awp_skip ?_ | exact absurd hcond (by decide) | (first | (refine awp_txt ?_; refine runs_to [] (by simp only [go_sem, h0, h1, h2, Option.some.injEq]; rfl) ?_) | (refine awp_draw mixed ?_; refine runs_to [] (by simp only [go_sem, h0, h1, h2, Option.some.injEq]; rfl) ?_)) | refine runD_nil ⟨by kernel_rfl, ?_⟩ | refine runD_nil ?_ | (refine runD_looks [(100020, 100020), (100021, 100021)] (kw38) cb38 (by rfl) (.inl (by simp only [go_sem, h0, h1, h2, Option.some.injEq]; rfl)) (by first | kernel_rfl | rfl) (by simp only [go_sem, ren, dels, adds, rn, At.rn, V1.rn, SV.rn, Cont.rn, Loc.rn, news, vals2, keys2, namesB, locKeys, injOn, noSlots, List.all, List.any, h0, h1, h2, Option.some.injEq]; ((repeat' (first | exact All2.nil | refine All2.cons ?_ ?_ | exact SubW.one (SubA.same _) | exact SubW.one (SubA.nil _) | exact SubW.one (SubA.ptr _) | refine SubW.agg ?_ | exact SubA.same _ | exact SubA.nil _ | exact SubA.ptr _)); first | done | fail)) (by simp only [go_sem, ren, dels, adds, rn, At.rn, V1.rn, SV.rn, Cont.rn, Loc.rn, news, vals2, keys2, namesB, locKeys, injOn, noSlots, List.all, List.any, h0, h1, h2, Option.some.injEq]; (repeat' (first | exact trivial | refine And.intro rfl ?_)); first | done | fail) (by simp only [go_sem, ren, dels, adds, rn, At.rn, V1.rn, SV.rn, Cont.rn, Loc.rn, news, vals2, keys2, namesB, locKeys, injOn, noSlots, List.all, List.any, h0, h1, h2, Option.some.injEq]; (repeat' (first | exact trivial | refine And.intro rfl ?_)); first | done | fail) ?_; simp only [go_sem, ren, dels, adds, rn, At.rn, V1.rn, SV.rn, Cont.rn, Loc.rn, news, vals2, keys2, namesB, locKeys, injOn, noSlots, List.all, List.any, h0, h1, h2, Option.some.injEq]; refine runs_to [] (by simp only [go_sem, h0, h1, h2, Option.some.injEq]; rfl) ?_) | (refine runD_looks [(100020, 100020), (100021, 100021)] (kw39) cb39 (by rfl) (.inl (by simp only [go_sem, h0, h1, h2, Option.some.injEq]; rfl)) (by first | kernel_rfl | rfl) (by simp only [go_sem, ren, dels, adds, rn, At.rn, V1.rn, SV.rn, Cont.rn, Loc.rn, news, vals2, keys2, namesB, locKeys, injOn, noSlots, List.all, List.any, h0, h1, h2, Option.some.injEq]; ((repeat' (first | exact All2.nil | refine All2.cons ?_ ?_ | exact SubW.one (SubA.same _) | exact SubW.one (SubA.nil _) | exact SubW.one (SubA.ptr _) | refine SubW.agg ?_ | exact SubA.same _ | exact SubA.nil _ | exact SubA.ptr _)); first | done | fail)) (by simp only [go_sem, ren, dels, adds, rn, At.rn, V1.rn, SV.rn, Cont.rn, Loc.rn, news, vals2, keys2, namesB, locKeys, injOn, noSlots, List.all, List.any, h0, h1, h2, Option.some.injEq]; (repeat' (first | exact trivial | refine And.intro rfl ?_)); first | done | fail) (by simp only [go_sem, ren, dels, adds, rn, At.rn, V1.rn, SV.rn, Cont.rn, Loc.rn, news, vals2, keys2, namesB, locKeys, injOn, noSlots, List.all, List.any, h0, h1, h2, Option.some.injEq]; (repeat' (first | exact trivial | refine And.intro rfl ?_)); first | done | fail) ?_; simp only [go_sem, ren, dels, adds, rn, At.rn, V1.rn, SV.rn, Cont.rn, Loc.rn, news, vals2, keys2, namesB, locKeys, injOn, noSlots, List.all, List.any, h0, h1, h2, Option.some.injEq]; refine runs_to [] (by simp only [go_sem, h0, h1, h2, Option.some.injEq]; rfl) ?_) | (refine awp_cond (b := _) (by simp only [go_sem, evB, h0, h1, h2, Option.some.injEq]; rfl) (fun hcond => ?_) (fun hcond => ?_))))
  refine leavesD_ok (by first | exact Or.inl rfl | exact Or.inr rfl) (Imp.takeE 100021 40 (by simp only [go_sem, renL, Loc.ren, Cont.ren, SV.ren, V1.ren, At.ren]) (by simp only [go_sem, renL, Loc.ren, Cont.ren, SV.ren, V1.ren, At.ren]; rfl) (by decide) (by simp only [go_sem, renL, Loc.ren, Cont.ren, SV.ren, V1.ren, At.ren]; rfl)) (by simp only [go_sem, resAll, resL]; rfl) (by simp only [packL]; (first | refine SubS.v ?_ | refine SubS.tup ?_); ((repeat' (first | exact All2.nil | refine All2.cons ?_ ?_ | exact SubW.one (SubA.same _) | exact SubW.one (SubA.nil _) | exact SubW.one (SubA.ptr _) | refine SubW.agg ?_ | exact SubA.same _ | exact SubA.nil _ | exact SubA.ptr _)); first | done | fail)) (by simp only [go_sem]; repeat' (first | exact trivial | refine And.intro rfl ?_))
theorem s30d (N room : Int) (M : List MSG) (S : Int → Int → Bool) (clk : List Int) (a b n : Int) (k : Nat) (f t : Int) (m : List Int) (h : badD N a b = false) (hM : M.length ≤ 8388608) (h0 : ¬ n < 0) (h1 : ¬ (cntM M a b : Int) ≤ n) (h2 : ¬ room ≤ (cntM M a b : Int)) (hk : fnd a b M n 0 = k) (hm : M[k]? = some (f, t, m)) (hml : m.length ≤ 140737488355328) :
    Does Try.prog 30 [.one (.vptr 100020 1 0 0), .one (lI a), .one (lI b), .one (lI n)] (rK 100020 100021 N room M S clk) (.v (.one (lI 0))) (rK 100020 40 N room (M ++ [(a, b, m)]) S clk) := by
  have kw38 := s38 N room M S clk a b
  have kw39 := s39 N room M S clk a b (by omega)
  have hcl := cntM_le M a b
  have kw43 := s43 N room M S clk a b n (by omega) (by omega) (by omega)
  rw [h] at kw38
  rw [hk] at kw43
  have hkl : k < M.length := (List.getElem?_eq_some_iff.1 hm).1
  have b3 : (k : Int) < M.length := by omega
  have b8 : (0 : Int) ≤ k := by omega
  have hc1 : M.length + 1 ≤ 140737488355328 := by omega
  have hc2 : (M.length + 1) * 40 ≤ 140737488355328 := by omega
  have hc3 : M.length ≤ 140737488355327 := by omega
  have hfin : List.map msgL (M ++ [(a, b, m)]) = List.map msgL M ++ [msgL (a, b, m)] := by simp
  refine does_of_body Try.func30 rfl (by simp [Try.f30]) rfl rfl ?_; rw [Try.ntmps30, Try.results30]; intro w0 G0 ρ0
  (repeat' (first | refine thenL_n ?_ | refine thenL_r ?_ | refine thenL_x ?_ | refine blockL_n ?_ | refine blockL_r ?_ | refine blockL_x ?_ | refine blockL_y rfl ?_ | refine awp_seq ?_ | refine awp_block ?_ | refine awp_ret ?_ | refine awp_exit ?_ | refine awp_skip ?_ | exact absurd hcond (by decide) | (first | (refine awp_txt ?_; refine runs_to [53] (by simp only [go_sem, h0, h1, h2, hkl, hm, b3, b8, hc1, hc2, hc3, Option.some.injEq]; rfl) ?_) | (refine awp_draw mixed ?_; refine runs_to [53] (by simp only [go_sem, h0, h1, h2, hkl, hm, b3, b8, hc1, hc2, hc3, Option.some.injEq]; rfl) ?_)) | refine runD_nil ⟨by kernel_rfl, ?_⟩ | refine runD_nil ?_ | (refine runD_looks [(100020, 100020), (100021, 100021)] (kw38) cb38 (by rfl) (.inl (by simp only [go_sem, h0, h1, h2, hkl, hm, b3, b8, hc1, hc2, hc3, Option.some.injEq]; rfl)) (by first | kernel_rfl | rfl) (by simp only [go_sem, ren, dels, adds, rn, At.rn, V1.rn, SV.rn, Cont.rn, Loc.rn, news, vals2, keys2, namesB, locKeys, injOn, noSlots, List.all, List.any, h0, h1, h2, hkl, hm, b3, b8, hc1, hc2, hc3, Option.some.injEq]; ((repeat' (first | exact All2.nil | refine All2.cons ?_ ?_ | exact SubW.one (SubA.same _) | exact SubW.one (SubA.nil _) | exact SubW.one (SubA.ptr _) | refine SubW.agg ?_ | exact SubA.same _ | exact SubA.nil _ | exact SubA.ptr _)); first | done | fail)) (by simp only [go_sem, ren, dels, adds, rn, At.rn, V1.rn, SV.rn, Cont.rn, Loc.rn, news, vals2, keys2, namesB, locKeys, injOn, noSlots, List.all, List.any, h0, h1, h2, hkl, hm, b3, b8, hc1, hc2, hc3, Option.some.injEq]; (repeat' (first | exact trivial | refine And.intro rfl ?_)); first | done | fail) (by simp only [go_sem, ren, dels, adds, rn, At.rn, V1.rn, SV.rn, Cont.rn, Loc.rn, news, vals2, keys2, namesB, locKeys, injOn, noSlots, List.all, List.any, h0, h1, h2, hkl, hm, b3, b8, hc1, hc2, hc3, Option.some.injEq]; (repeat' (first | exact trivial | refine And.intro rfl ?_)); first | done | fail) ?_; simp only [go_sem, ren, dels, adds, rn, At.rn, V1.rn, SV.rn, Cont.rn, Loc.rn, news, vals2, keys2, namesB, locKeys, injOn, noSlots, List.all, List.any, h0, h1, h2, hkl, hm, b3, b8, hc1, hc2, hc3, Option.some.injEq]; refine runs_to [53] (by simp only [go_sem, h0, h1, h2, hkl, hm, b3, b8, hc1, hc2, hc3, Option.some.injEq]; rfl) ?_) | (refine runD_looks [(100020, 100020), (100021, 100021)] (kw39) cb39 (by rfl) (.inl (by simp only [go_sem, h0, h1, h2, hkl, hm, b3, b8, hc1, hc2, hc3, Option.some.injEq]; rfl)) (by first | kernel_rfl | rfl) (by simp only [go_sem, ren, dels, adds, rn, At.rn, V1.rn, SV.rn, Cont.rn, Loc.rn, news, vals2, keys2, namesB, locKeys, injOn, noSlots, List.all, List.any, h0, h1, h2, hkl, hm, b3, b8, hc1, hc2, hc3, Option.some.injEq]; ((repeat' (first | exact All2.nil | refine All2.cons ?_ ?_ | exact SubW.one (SubA.same _) | exact SubW.one (SubA.nil _) | exact SubW.one (SubA.ptr _) | refine SubW.agg ?_ | exact SubA.same _ | exact SubA.nil _ | exact SubA.ptr _)); first | done | fail)) (by simp only [go_sem, ren, dels, adds, rn, At.rn, V1.rn, SV.rn, Cont.rn, Loc.rn, news, vals2, keys2, namesB, locKeys, injOn, noSlots, List.all, List.any, h0, h1, h2, hkl, hm, b3, b8, hc1, hc2, hc3, Option.some.injEq]; (repeat' (first | exact trivial | refine And.intro rfl ?_)); first | done | fail) (by simp only [go_sem, ren, dels, adds, rn, At.rn, V1.rn, SV.rn, Cont.rn, Loc.rn, news, vals2, keys2, namesB, locKeys, injOn, noSlots, List.all, List.any, h0, h1, h2, hkl, hm, b3, b8, hc1, hc2, hc3, Option.some.injEq]; (repeat' (first | exact trivial | refine And.intro rfl ?_)); first | done | fail) ?_; simp only [go_sem, ren, dels, adds, rn, At.rn, V1.rn, SV.rn, Cont.rn, Loc.rn, news, vals2, keys2, namesB, locKeys, injOn, noSlots, List.all, List.any, h0, h1, h2, hkl, hm, b3, b8, hc1, hc2, hc3, Option.some.injEq]; refine runs_to [53] (by simp only [go_sem, h0, h1, h2, hkl, hm, b3, b8, hc1, hc2, hc3, Option.some.injEq]; rfl) ?_) | (refine runD_looks [(100020, 100020), (100021, 100021)] (kw43) cb43 (by rfl) (.inl (by simp only [go_sem, h0, h1, h2, hkl, hm, b3, b8, hc1, hc2, hc3, Option.some.injEq]; rfl)) (by first | kernel_rfl | rfl) (by simp only [go_sem, ren, dels, adds, rn, At.rn, V1.rn, SV.rn, Cont.rn, Loc.rn, news, vals2, keys2, namesB, locKeys, injOn, noSlots, List.all, List.any, h0, h1, h2, hkl, hm, b3, b8, hc1, hc2, hc3, Option.some.injEq]; ((repeat' (first | exact All2.nil | refine All2.cons ?_ ?_ | exact SubW.one (SubA.same _) | exact SubW.one (SubA.nil _) | exact SubW.one (SubA.ptr _) | refine SubW.agg ?_ | exact SubA.same _ | exact SubA.nil _ | exact SubA.ptr _)); first | done | fail)) (by simp only [go_sem, ren, dels, adds, rn, At.rn, V1.rn, SV.rn, Cont.rn, Loc.rn, news, vals2, keys2, namesB, locKeys, injOn, noSlots, List.all, List.any, h0, h1, h2, hkl, hm, b3, b8, hc1, hc2, hc3, Option.some.injEq]; (repeat' (first | exact trivial | refine And.intro rfl ?_)); first | done | fail) (by simp only [go_sem, ren, dels, adds, rn, At.rn, V1.rn, SV.rn, Cont.rn, Loc.rn, news, vals2, keys2, namesB, locKeys, injOn, noSlots, List.all, List.any, h0, h1, h2, hkl, hm, b3, b8, hc1, hc2, hc3, Option.some.injEq]; (repeat' (first | exact trivial | refine And.intro rfl ?_)); first | done | fail) ?_; simp only [go_sem, ren, dels, adds, rn, At.rn, V1.rn, SV.rn, Cont.rn, Loc.rn, news, vals2, keys2, namesB, locKeys, injOn, noSlots, List.all, List.any, h0, h1, h2, hkl, hm, b3, b8, hc1, hc2, hc3, Option.some.injEq]; refine runs_to [53] (by simp only [go_sem, h0, h1, h2, hkl, hm, b3, b8, hc1, hc2, hc3, Option.some.injEq]; rfl) ?_) | (refine runD_call (c25 m hml) cb25 (by rfl) (by simp only [go_sem, h0, h1, h2, hkl, hm, b3, b8, hc1, hc2, hc3, Option.some.injEq]; rfl) (by ((repeat' (first | exact All2.nil | refine All2.cons ?_ ?_ | exact SubV.one (SubT.same _) | exact SubV.one (SubT.nil _) | refine SubV.agg ?_ | exact SubT.same _ | exact SubT.nil _)); first | done | fail)) ?_; refine runs_to [53] (by simp only [go_sem, h0, h1, h2, hkl, hm, b3, b8, hc1, hc2, hc3, Option.some.injEq]; rfl) ?_) | (refine awp_cond (b := _) (by simp only [go_sem, evB, h0, h1, h2, hkl, hm, b3, b8, hc1, hc2, hc3, Option.some.injEq]; rfl) (fun hcond => ?_) (fun hcond => ?_))))
  refine leavesD_ok (by first | exact Or.inl rfl | exact Or.inr rfl) (Imp.takeE 54 40 (by simp only [go_sem, renL, Loc.ren, Cont.ren, SV.ren, V1.ren, At.ren, hfin, List.map_append, List.map_cons, List.map_nil]) (by simp only [go_sem, renL, Loc.ren, Cont.ren, SV.ren, V1.ren, At.ren, hfin, List.map_append, List.map_cons, List.map_nil]; rfl) (by decide) (by simp only [go_sem, renL, Loc.ren, Cont.ren, SV.ren, V1.ren, At.ren, hfin, List.map_append, List.map_cons, List.map_nil]; rfl)) (by simp only [go_sem, resAll, resL, hfin, List.map_append, List.map_cons, List.map_nil]; rfl) (by simp only [packL]; (first | refine SubS.v ?_ | refine SubS.tup ?_); ((repeat' (first | exact All2.nil | refine All2.cons ?_ ?_ | exact SubW.one (SubA.same _) | exact SubW.one (SubA.nil _) | exact SubW.one (SubA.ptr _) | refine SubW.agg ?_ | exact SubA.same _ | exact SubA.nil _ | exact SubA.ptr _)); first | done | fail)) (by simp only [go_sem, hfin, List.map_append, List.map_cons, List.map_nil]; repeat' (first | exact trivial | refine And.intro rfl ?_))

theorem cellsF_keys (f : Nat → Value) (off m : Nat) : List.flatMap At.keys (cellsF f off m) = [] := by
  rw [List.flatMap_eq_nil_iff]
  intro c hc
  obtain ⟨j, _, rfl⟩ := List.mem_map.1 hc
  rfl
theorem leavesD_imp {C : Ctx} {σ τ : L} {rs : List ResultVar} {res : SV} {post : L} {e : Exit} (h : Imp C σ τ) (h2 : LeavesD C rs res post e τ) : LeavesD C rs res post e σ := by
  obtain ⟨he, τ', hi, ys, h3, h4, h5⟩ := h2
  exact ⟨he, τ', Imp.trans h hi, ys, h3, h4, h5⟩
theorem zero51 (j : Nat) (h : j < 1024) : zeroF Try.prog 51 j = .bool false := by
  have h1 : tinfo Try.prog 51 = some ⟨.array 32 50, 1024, 1024, List.replicate 1024 (.bool false), true, false, []⟩ := by kernel_rfl
  unfold zeroF
  rw [h1]
  simp only [List.getD_eq_getElem?_getD, List.getElem?_replicate, h, if_true, Option.getD_some]

theorem heal_eq (N room : Int) (S : Int → Int → Bool) (clk : List Int) (i : Nat) (hi : i < 1059) (hne : some 2 ≠ some i) : putF (netF N room S clk) 3 (cellsF (zeroF Try.prog 51) 0 1024) i = netF N room (fun _ _ => false) clk i := by
  have h2 : i ≠ 2 := by rintro rfl; exact hne rfl
  unfold putF
  rw [cellsF_length]
  split
  · rename_i h
    rw [litsF_cellsF _ _ _ _ (by omega), Nat.zero_add, zero51 _ (by omega)]
    unfold netF
    rw [if_neg (by omega), if_neg (by omega), if_neg (by omega), if_pos (by omega)]
  · rename_i h
    unfold netF
    by_cases h3 : i < 3
    · have : i = 0 ∨ i = 1 := by omega
      rcases this with rfl | rfl <;> rfl
    · simp only [show ¬ i = 0 by omega, show ¬ i = 1 by omega, h2, show ¬ i < 1027 by omega, if_false]

theorem s32 (N room : Int) (M : List MSG) (S : Int → Int → Bool) (clk : List Int) :
    Does Try.prog 32 [.one (.vptr 100020 1 0 0)] (rK 100020 100021 N room M S clk) (.tup []) (rK 100020 40 N room M (fun _ _ => false) clk) := by
  refine does_of_body Try.func32 rfl (by simp [Try.f32]) rfl rfl ?_; rw [Try.ntmps32, Try.results32]; intro w0 G0 ρ0
  (repeat' (first | refine thenL_n ?_ | refine thenL_r ?_ | refine thenL_x ?_ | refine blockL_n ?_ | refine blockL_r ?_ | refine blockL_x ?_ | refine blockL_y rfl ?_ | refine awp_seq ?_ | refine awp_block ?_ | refine awp_ret ?_ | refine awp_exit ?_ | refine awp_skip ?_ | exact absurd hcond (by decide) | (first | (refine awp_txt ?_; refine runs_to [] (by simp only [go_sem]; rfl) ?_) | (refine awp_draw mixed ?_; refine runs_to [] (by simp only [go_sem]; rfl) ?_)) | refine runD_nil ⟨by kernel_rfl, ?_⟩ | refine runD_nil ?_ | (refine awp_cond (b := _) (by simp only [go_sem, evB]; rfl) (fun hcond => ?_) (fun hcond => ?_))))
  refine leavesD_imp (Imp.memF 100020 (netF N room (fun _ _ => false) clk) (by simp only [go_sem]; rfl) (fun i hi hne => heal_eq N room S clk i hi hne) (by simp only [go_sem]; rfl)) ?_
  refine leavesD_ok (by first | exact Or.inl rfl | exact Or.inr rfl) (Imp.takeE 100021 40 (by simp only [go_sem, renL, Loc.ren, Cont.ren, SV.ren, V1.ren, At.ren, cellsF_keys]) (by simp only [go_sem, renL, Loc.ren, Cont.ren, SV.ren, V1.ren, At.ren, cellsF_keys]; rfl) (by decide) (by simp only [go_sem, renL, Loc.ren, Cont.ren, SV.ren, V1.ren, At.ren, cellsF_keys]; rfl)) (by simp only [go_sem, resAll, resL, cellsF_keys]; rfl) (by simp only [packL]; (first | refine SubS.v ?_ | refine SubS.tup ?_); ((repeat' (first | exact All2.nil | refine All2.cons ?_ ?_ | exact SubW.one (SubA.same _) | exact SubW.one (SubA.nil _) | exact SubW.one (SubA.ptr _) | refine SubW.agg ?_ | exact SubA.same _ | exact SubA.nil _ | exact SubA.ptr _)); first | done | fail)) (by simp only [go_sem, cellsF_keys]; repeat' (first | exact trivial | refine And.intro rfl ?_))
end Go.Proofs.Ytidnlnnobegniaa
set_option maxHeartbeats 4000000
set_option maxRecDepth 10000
set_option linter.unusedVariables false
set_option linter.unusedSimpArgs false
namespace Go.Proofs.Ytidnlnnobegniaa
open Go.AM Go.RowKit
attribute [local irreducible] AWP thenL blockL AM.Leaves LeavesO RunD
attribute [local go_sem] act0 actN actX actFieldM actIndexM actLoadM actStoreM actAllocM actBoxM actBuildM actSliceM actRange
  actEntry actDelB bigT bigOp offHole sizeM keyC actMakeMap actLookup actMapEntry actEntryStore actMapUpdate
  actDelete actClear actLen2 actIndex2 actLoad2 actOne actApp2 actCall2 actMark isZI isZS isOwn
  QHole.at holeB runs stepR actF inF frzA frzW lastW act act1 actPick
  actNil actBin actUn actConv actExtract actFieldAddr actField actAlloc keysOf actBox actLoad treesOf
  actStore actIndex actLen actMx srcL actAppend actMake actBuild actBuildSlice boundL actSlice actCall
  actEqS isStruct isSlice actText actCopy litsOf kindsOK fieldsPlain eqAll eqop dstB dstN
  boolS litB litV sv binv unv lits takeC cellsR trees cellsW mxv
  repl parts fillAt fillRows V1.cs mkV ev evr AM.look put del applyL
  delD wrD undefS SV.to V1.to At.to keysL notIn freshKey PV.up PR.up entry
  entryV evp isAt actPtrNil capsL actFunc sameV sameVs pureCtx doc mkVar AM.Loc.key
  Cont.keys SV.keys V1.keys At.keys Cont.sub SV.sub V1.sub At.sub guardR argsL callR eq_self
  Nat.blt_eq Nat.blt Nat.ble Nat.beq_eq_true_eq beq_self_eq_true Array.toList List.map List.append_eq List.nil_append List.cons_append List.append_nil List.append_assoc
  Bool.and_eq_true decide_true decide_false decide_eq_true_eq Bool.not_true Bool.not_false reduceCtorEq if_true if_false ite_true ite_false reduceIte
  AM.Loc.slot.injEq AM.Loc.cell.injEq AM.Loc.vec.injEq List.getElem?_cons_zero List.getElem?_cons_succ List.getElem?_nil Option.map_some Option.map_none Option.toList List.flatMap_nil List.flatMap_cons Bool.and_true
  Bool.true_and Bool.and_false Bool.false_and Bool.true_eq_false Bool.false_eq_true Nat.reduceBEq Nat.reduceEqDiff bool_beq_tt bool_beq_ff bool_beq_tf bool_beq_ft List.length_cons
  List.length_nil List.drop List.take List.drop_zero List.take_zero List.all_cons List.all_nil Value.oneCell' Nat.zero_add Nat.reduceAdd Nat.reduceMul Nat.reduceSub
  Nat.reduceLT Nat.reduceLeDiff Int.reduceLT Int.reduceLE Int.reduceEq Int.reduceBEq Int.reduceBNe Int.reduceAdd Int.reduceSub Int.reduceMul Int.reduceNeg Int.reduceToNat
  Nat.succ_ne_zero List.replicate and_true true_and and_false false_and and_self ge_iff_le gt_iff_lt bne_self_eq_false List.zip_cons_cons List.zip_nil_left
  List.zip List.zipWith Int.natCast_nonneg Int.toNat_natCast List.getElem?_map List.length_map sT sI sB sR sP rV
  AllIn Int.toNat_zero Int.ofNat_zero Int.natCast_zero Nat.le_refl List.mapM_cons List.mapM_nil Option.bind_eq_bind Option.bind_some Option.bind_none Option.pure_def List.set_cons_zero
  List.set_cons_succ List.length_set cellsF_length cellsF_lit putF_one tt2 tt3 tt4 tt5 tt9 tt12 tt21
  tt22 tt23 tt24 tt30 tt39 tt40 tt41 tt42 tt43 tt44 tt45 tt49
  tt59 tt60 tt61 tt62 tt63 tt66 tt67 tt70 tt94 tt98 mo60 mo61
  mg22 mg3 zz22 zz3 bi50 bi51 bi52 bi54 im60 ho54
attribute [local go_sem] vlit rInt rBool vInts pInts vBy vvBy lI lB nK lN rB msgL rK netF_0 netF_1

def cutB (S : Int → Int → Bool) (a b : Int) : Int → Int → Bool := fun c d => S c d || (decide (c = a) && decide (d = b)) || (decide (c = b) && decide (d = a))
theorem cut_eq (N room : Int) (S : Int → Int → Bool) (clk : List Int) {p q : Nat} (hp : p < 32) (hq : q < 32) (i : Nat) :
    (if i = 3 + q * 32 + p then .bool true else if i = 3 + p * 32 + q then .bool true else netF N room S clk i) = netF N room (cutB S p q) clk i := by
  unfold netF
  by_cases h3 : i < 3
  · have : i = 0 ∨ i = 1 ∨ i = 2 := by omega
    rw [if_neg (by omega), if_neg (by omega)]
    rcases this with rfl | rfl | rfl <;> rfl
  by_cases h4 : i < 1027
  · have e0 : ¬ i = 0 := by omega
    have e1 : ¬ i = 1 := by omega
    have e2 : ¬ i = 2 := by omega
    simp only [e0, e1, e2, h4, if_true, if_false]
    by_cases h5 : i = 3 + q * 32 + p
    · have d1 : (i - 3) / 32 = q := by omega
      have d2 : (i - 3) % 32 = p := by omega
      rw [if_pos h5, d1, d2]
      simp [cutB]
    · rw [if_neg h5]
      by_cases h6 : i = 3 + p * 32 + q
      · have d1 : (i - 3) / 32 = p := by omega
        have d2 : (i - 3) % 32 = q := by omega
        rw [if_pos h6, d1, d2]
        simp [cutB]
      · rw [if_neg h6]
        have n1 : ¬ (((((i - 3) / 32 : Nat) : Int) = p) ∧ ((((i - 3) % 32 : Nat) : Int) = q)) := by omega
        have n2 : ¬ (((((i - 3) / 32 : Nat) : Int) = q) ∧ ((((i - 3) % 32 : Nat) : Int) = p)) := by omega
        have b1 : (decide ((((i - 3) / 32 : Nat) : Int) = p) && decide ((((i - 3) % 32 : Nat) : Int) = q)) = false := by
          rw [← Bool.not_eq_true, Bool.and_eq_true, decide_eq_true_eq, decide_eq_true_eq]; exact n1
        have b2 : (decide ((((i - 3) / 32 : Nat) : Int) = q) && decide ((((i - 3) % 32 : Nat) : Int) = p)) = false := by
          rw [← Bool.not_eq_true, Bool.and_eq_true, decide_eq_true_eq, decide_eq_true_eq]; exact n2
        unfold cutB
        rw [b1, b2, Bool.or_false, Bool.or_false]
  · simp only [show ¬ i = 3 + q * 32 + p by omega, show ¬ i = 3 + p * 32 + q by omega, show ¬ i = 0 by omega, show ¬ i = 1 by omega, show ¬ i = 2 by omega, h4, if_false]

def keepC (a b : Int) (p : MSG) : Bool := !(((p.1 == a) && (p.2.1 == b)) || ((p.1 == b) && (p.2.1 == a)))
theorem s31a (N room : Int) (M : List MSG) (S : Int → Int → Bool) (clk : List Int) (a b : Int) (h : badD N a b = true) :
    Does Try.prog 31 [.one (.vptr 100020 1 0 0), .one (lI a), .one (lI b)] (rK 100020 100021 N room M S clk) (.v (.one (lI 60))) (rK 100020 40 N room M S clk) := by
  have kw38 := s38 N room M S clk a b
  rw [h] at kw38
  refine does_of_body Try.func31 rfl (by simp [Try.f31]) rfl rfl ?_; rw [Try.ntmps31, Try.results31]; intro w0 G0 ρ0
  (repeat' (first | refine thenL_n ?_ | refine thenL_r ?_ | refine thenL_x ?_ | refine blockL_n ?_ | refine blockL_r ?_ | refine blockL_x ?_ | refine blockL_y rfl ?_ | refine awp_seq ?_ | refine awp_block ?_ | refine awp_ret ?_ | refine awp_exit ?_ | refine awp_skip ?_ | exact absurd hcond (by decide) | (first | (refine awp_txt ?_; refine runs_to [] (by simp only [go_sem]; rfl) ?_) | (refine awp_draw mixed ?_; refine runs_to [] (by simp only [go_sem]; rfl) ?_)) | refine runD_nil ⟨by kernel_rfl, ?_⟩ | refine runD_nil ?_ | (refine runD_looks [(100020, 100020), (100021, 100021)] (kw38) cb38 (by rfl) (.inl (by simp only [go_sem]; rfl)) (by first | kernel_rfl | rfl) (by simp only [go_sem, ren, dels, adds, rn, At.rn, V1.rn, SV.rn, Cont.rn, Loc.rn, news, vals2, keys2, namesB, locKeys, injOn, noSlots, List.all, List.any]; ((repeat' (first | exact All2.nil | refine All2.cons ?_ ?_ | exact SubW.one (SubA.same _) | exact SubW.one (SubA.nil _) | exact SubW.one (SubA.ptr _) | refine SubW.agg ?_ | exact SubA.same _ | exact SubA.nil _ | exact SubA.ptr _)); first | done | fail)) (by simp only [go_sem, ren, dels, adds, rn, At.rn, V1.rn, SV.rn, Cont.rn, Loc.rn, news, vals2, keys2, namesB, locKeys, injOn, noSlots, List.all, List.any]; (repeat' (first | exact trivial | refine And.intro rfl ?_)); first | done | fail) (by simp only [go_sem, ren, dels, adds, rn, At.rn, V1.rn, SV.rn, Cont.rn, Loc.rn, news, vals2, keys2, namesB, locKeys, injOn, noSlots, List.all, List.any]; (repeat' (first | exact trivial | refine And.intro rfl ?_)); first | done | fail) ?_; simp only [go_sem, ren, dels, adds, rn, At.rn, V1.rn, SV.rn, Cont.rn, Loc.rn, news, vals2, keys2, namesB, locKeys, injOn, noSlots, List.all, List.any]; refine runs_to [] (by simp only [go_sem]; rfl) ?_) | (refine awp_cond (b := _) (by simp only [go_sem, evB]; rfl) (fun hcond => ?_) (fun hcond => ?_))))
  refine leavesD_ok (by first | exact Or.inl rfl | exact Or.inr rfl) (Imp.takeE 100021 40 (by simp only [go_sem, renL, Loc.ren, Cont.ren, SV.ren, V1.ren, At.ren]) (by simp only [go_sem, renL, Loc.ren, Cont.ren, SV.ren, V1.ren, At.ren]; rfl) (by decide) (by simp only [go_sem, renL, Loc.ren, Cont.ren, SV.ren, V1.ren, At.ren]; rfl)) (by simp only [go_sem, resAll, resL]; rfl) (by simp only [packL]; (first | refine SubS.v ?_ | refine SubS.tup ?_); ((repeat' (first | exact All2.nil | refine All2.cons ?_ ?_ | exact SubW.one (SubA.same _) | exact SubW.one (SubA.nil _) | exact SubW.one (SubA.ptr _) | refine SubW.agg ?_ | exact SubA.same _ | exact SubA.nil _ | exact SubA.ptr _)); first | done | fail)) (by simp only [go_sem]; repeat' (first | exact trivial | refine And.intro rfl ?_))
theorem s31b (N room : Int) (M : List MSG) (S : Int → Int → Bool) (clk : List Int) (a b : Int) (h : badD N a b = false) (hN : N ≤ 32) (hM : M.length ≤ 8388608) :
    Does Try.prog 31 [.one (.vptr 100020 1 0 0), .one (lI a), .one (lI b)] (rK 100020 100021 N room M S clk) (.v (.one (lI 0))) (rK 100020 40 N room (M.filter (keepC a b)) (cutB S a b) clk) := by
  have kw38 := s38 N room M S clk a b
  rw [h] at kw38
  obtain ⟨p, q, rfl, rfl, hp, hq⟩ := badD_no h
  have hlt1 : 3 + p * 32 + q < 1059 := by omega
  have hlt2 : 3 + q * 32 + p < 1059 := by omega
  have hle1 : 3 + p * 32 + q + 1 ≤ 1059 := by omega
  have hle2 : 3 + q * 32 + p + 1 ≤ 1059 := by omega
  have ho1 : (2 < 3 + p * 32 + q ∨ 3 + p * 32 + q ≤ 1) := by omega
  have ho2 : (2 < 3 + q * 32 + p ∨ 3 + q * 32 + p ≤ 1) := by omega
  have hp32 : (p : Int) < ((32 : Nat) : Int) := by omega
  have hq32 : (q : Int) < ((32 : Nat) : Int) := by omega
  have hp0 : (0 : Int) ≤ p := by omega
  have hq0 : (0 : Int) ≤ q := by omega
  refine does_of_body Try.func31 rfl (by simp [Try.f31]) rfl rfl ?_; rw [Try.ntmps31, Try.results31]; intro w0 G0 ρ0
  (repeat' (first | refine thenL_n ?_ | refine thenL_r ?_ | refine thenL_x ?_ | refine blockL_n ?_ | refine blockL_r ?_ | refine blockL_x ?_ | refine blockL_y rfl ?_ | refine awp_seq ?_ | refine awp_block ?_ | refine awp_ret ?_ | refine awp_exit ?_ | refine awp_skip ?_ | exact absurd hcond (by decide) | (first | (refine awp_txt ?_; refine runs_to [] (by simp only [go_sem, hlt1, hlt2, hle1, hle2, ho1, ho2, hp32, hq32, hp0, hq0, Option.some.injEq, Nat.mul_one, Nat.add_zero, isLit]; rfl) ?_) | (refine awp_draw mixed ?_; refine runs_to [] (by simp only [go_sem, hlt1, hlt2, hle1, hle2, ho1, ho2, hp32, hq32, hp0, hq0, Option.some.injEq, Nat.mul_one, Nat.add_zero, isLit]; rfl) ?_)) | refine runD_nil ⟨by kernel_rfl, ?_⟩ | refine runD_nil ?_ | (refine runD_looks [(100020, 100020), (100021, 100021)] (kw38) cb38 (by rfl) (.inl (by simp only [go_sem, hlt1, hlt2, hle1, hle2, ho1, ho2, hp32, hq32, hp0, hq0, Option.some.injEq, Nat.mul_one, Nat.add_zero, isLit]; rfl)) (by first | kernel_rfl | rfl) (by simp only [go_sem, ren, dels, adds, rn, At.rn, V1.rn, SV.rn, Cont.rn, Loc.rn, news, vals2, keys2, namesB, locKeys, injOn, noSlots, List.all, List.any, hlt1, hlt2, hle1, hle2, ho1, ho2, hp32, hq32, hp0, hq0, Option.some.injEq, Nat.mul_one, Nat.add_zero, isLit]; ((repeat' (first | exact All2.nil | refine All2.cons ?_ ?_ | exact SubW.one (SubA.same _) | exact SubW.one (SubA.nil _) | exact SubW.one (SubA.ptr _) | refine SubW.agg ?_ | exact SubA.same _ | exact SubA.nil _ | exact SubA.ptr _)); first | done | fail)) (by simp only [go_sem, ren, dels, adds, rn, At.rn, V1.rn, SV.rn, Cont.rn, Loc.rn, news, vals2, keys2, namesB, locKeys, injOn, noSlots, List.all, List.any, hlt1, hlt2, hle1, hle2, ho1, ho2, hp32, hq32, hp0, hq0, Option.some.injEq, Nat.mul_one, Nat.add_zero, isLit]; (repeat' (first | exact trivial | refine And.intro rfl ?_)); first | done | fail) (by simp only [go_sem, ren, dels, adds, rn, At.rn, V1.rn, SV.rn, Cont.rn, Loc.rn, news, vals2, keys2, namesB, locKeys, injOn, noSlots, List.all, List.any, hlt1, hlt2, hle1, hle2, ho1, ho2, hp32, hq32, hp0, hq0, Option.some.injEq, Nat.mul_one, Nat.add_zero, isLit]; (repeat' (first | exact trivial | refine And.intro rfl ?_)); first | done | fail) ?_; simp only [go_sem, ren, dels, adds, rn, At.rn, V1.rn, SV.rn, Cont.rn, Loc.rn, news, vals2, keys2, namesB, locKeys, injOn, noSlots, List.all, List.any, hlt1, hlt2, hle1, hle2, ho1, ho2, hp32, hq32, hp0, hq0, Option.some.injEq, Nat.mul_one, Nat.add_zero, isLit]; refine runs_to [] (by simp only [go_sem, hlt1, hlt2, hle1, hle2, ho1, ho2, hp32, hq32, hp0, hq0, Option.some.injEq, Nat.mul_one, Nat.add_zero, isLit]; rfl) ?_) | (refine awp_cond (b := _) (by simp only [go_sem, evB, hlt1, hlt2, hle1, hle2, ho1, ho2, hp32, hq32, hp0, hq0, Option.some.injEq, Nat.mul_one, Nat.add_zero, isLit]; rfl) (fun hcond => ?_) (fun hcond => ?_))))
  refine awp_imp (Imp.memF 100020 (netF N room (cutB S p q) clk) (by simp only [go_sem]; rfl) (by intro i hi hne; exact cut_eq N room S clk (by omega) (by omega) i) (by simp only [go_sem]; rfl)) ?_
  refine awp_loop (fun i : Nat => (.slot 0, .s (.v (.one (.vptr 100020 1 0 0)))) :: (.slot 1, sI p) :: (.slot 2, sI q) :: (.slot 7, sR 41) :: (.vec 41, .r 3 45 (((M.take i).filter (keepC p q)).map msgL)) :: (.slot 8, sI i) :: rK 100020 100021 N room M (cutB S p q) clk) (fun i => i ≤ M.length) (fun i => M.length - i) 0 (Nat.zero_le _) (Imp.trans (Imp.adopt 7 41 3 45 (by simp only [go_sem]) (by decide) (by simp only [go_sem])) (by refine Imp.of_in ?_; simp only [go_sem, List.take_zero, List.filter_nil, List.map_nil, Int.natCast_zero])) ?_
  intro i hi
  by_cases hlt : (i : Int) < M.length
  · have hil : i < M.length := by omega
    have hm : M[i]? = some M[i] := List.getElem?_eq_getElem hil
    have hts : M.take (i + 1) = M.take i ++ [M[i]] := List.take_succ_eq_append_getElem hil
    generalize M[i] = x at hm hts
    obtain ⟨f, t, m⟩ := x
    have hw := up i (by omega)
    have hln : ((M.take i).filter (keepC p q)).length ≤ i := by
      have := List.length_filter_le (keepC p q) (M.take i)
      rw [List.length_take] at this; omega
    have hfl : (M.take (i + 1)).filter (keepC p q) = (M.take i).filter (keepC p q) ++ if keepC p q (f, t, m) = true then [(f, t, m)] else [] := by
      rw [hts, List.filter_append]
      congr 1
      cases h : keepC (p : Int) q (f, t, m) <;> simp [h]
    generalize (M.take i).filter (keepC p q) = L at hln hfl
    have hc1 : L.length + 1 ≤ 140737488355328 := by omega
    have hc2 : (L.length + 1) * 40 ≤ 140737488355328 := by omega
    have hc3 : L.length ≤ 140737488355327 := by omega
    obtain ⟨fa, hfa⟩ : ∃ fa, (f == (p : Int)) = fa := ⟨_, rfl⟩
    obtain ⟨tb, htb⟩ : ∃ tb, (t == (q : Int)) = tb := ⟨_, rfl⟩
    obtain ⟨fb, hfb⟩ : ∃ fb, (f == (q : Int)) = fb := ⟨_, rfl⟩
    obtain ⟨ta, hta⟩ : ∃ ta, (t == (p : Int)) = ta := ⟨_, rfl⟩
    have hk : keepC p q (f, t, m) = !((fa && tb) || (fb && ta)) := by rw [← hfa, ← htb, ← hfb, ← hta]; rfl
    rw [hk] at hfl
    have keep : (!((fa && tb) || (fb && ta))) = true → (M.take (i + 1)).filter (keepC p q) = L ++ [(f, t, m)] := fun h => by rw [hfl, if_pos h]
    have drop : (!((fa && tb) || (fb && ta))) = false → (M.take (i + 1)).filter (keepC p q) = L := fun h => by rw [hfl, h]; simp
    clear hfl hk
    cases fa
    · cases fb
      · have hfl := keep rfl
        (repeat' (first | refine thenL_n ?_ | refine thenL_r ?_ | refine thenL_x ?_ | refine blockL_n ?_ | refine blockL_r ?_ | refine blockL_x ?_ | refine blockL_y rfl ?_ | refine awp_seq ?_ | refine awp_block ?_ | refine awp_ret ?_ | refine awp_exit ?_ | refine awp_skip ?_ | exact absurd hcond (by decide) | (first | (refine awp_txt ?_; refine runs_to [] (by simp only [go_sem, hlt, hil, hm, hw, hfa, htb, hfb, hta, hc1, hc2, hc3, Option.some.injEq]; rfl) ?_) | (refine awp_draw mixed ?_; refine runs_to [] (by simp only [go_sem, hlt, hil, hm, hw, hfa, htb, hfb, hta, hc1, hc2, hc3, Option.some.injEq]; rfl) ?_)) | refine runD_nil ⟨by kernel_rfl, ?_⟩ | refine runD_nil ?_ | (refine awp_cond (b := _) (by simp only [go_sem, evB, hlt, hil, hm, hw, hfa, htb, hfb, hta, hc1, hc2, hc3, Option.some.injEq]; rfl) (fun hcond => ?_) (fun hcond => ?_))))
        exact ⟨i + 1, by omega, by omega, (by refine Imp.back 70 41 (by simp only [go_sem, renL, Loc.ren, Cont.ren, SV.ren, V1.ren, At.ren,  hfl, List.map_append, List.map_cons, List.map_nil]) (by simp only [go_sem, renL, Loc.ren, Cont.ren, SV.ren, V1.ren, At.ren,  hfl, List.map_append, List.map_cons, List.map_nil]) (by simp only [go_sem, renL, Loc.ren, Cont.ren, SV.ren, V1.ren, At.ren,  hfl, List.map_append, List.map_cons, List.map_nil]) (by decide) (by decide) ?_; refine Imp.of_in ?_; simp only [go_sem, renL, Loc.ren, Cont.ren, SV.ren, V1.ren, At.ren,  hfl, List.map_append, List.map_cons, List.map_nil])⟩
      · cases ta
        · have hfl := keep rfl
          (repeat' (first | refine thenL_n ?_ | refine thenL_r ?_ | refine thenL_x ?_ | refine blockL_n ?_ | refine blockL_r ?_ | refine blockL_x ?_ | refine blockL_y rfl ?_ | refine awp_seq ?_ | refine awp_block ?_ | refine awp_ret ?_ | refine awp_exit ?_ | refine awp_skip ?_ | exact absurd hcond (by decide) | (first | (refine awp_txt ?_; refine runs_to [] (by simp only [go_sem, hlt, hil, hm, hw, hfa, htb, hfb, hta, hc1, hc2, hc3, Option.some.injEq]; rfl) ?_) | (refine awp_draw mixed ?_; refine runs_to [] (by simp only [go_sem, hlt, hil, hm, hw, hfa, htb, hfb, hta, hc1, hc2, hc3, Option.some.injEq]; rfl) ?_)) | refine runD_nil ⟨by kernel_rfl, ?_⟩ | refine runD_nil ?_ | (refine awp_cond (b := _) (by simp only [go_sem, evB, hlt, hil, hm, hw, hfa, htb, hfb, hta, hc1, hc2, hc3, Option.some.injEq]; rfl) (fun hcond => ?_) (fun hcond => ?_))))
          exact ⟨i + 1, by omega, by omega, (by refine Imp.back 70 41 (by simp only [go_sem, renL, Loc.ren, Cont.ren, SV.ren, V1.ren, At.ren,  hfl, List.map_append, List.map_cons, List.map_nil]) (by simp only [go_sem, renL, Loc.ren, Cont.ren, SV.ren, V1.ren, At.ren,  hfl, List.map_append, List.map_cons, List.map_nil]) (by simp only [go_sem, renL, Loc.ren, Cont.ren, SV.ren, V1.ren, At.ren,  hfl, List.map_append, List.map_cons, List.map_nil]) (by decide) (by decide) ?_; refine Imp.of_in ?_; simp only [go_sem, renL, Loc.ren, Cont.ren, SV.ren, V1.ren, At.ren,  hfl, List.map_append, List.map_cons, List.map_nil])⟩
        · have hfl := drop rfl
          (repeat' (first | refine thenL_n ?_ | refine thenL_r ?_ | refine thenL_x ?_ | refine blockL_n ?_ | refine blockL_r ?_ | refine blockL_x ?_ | refine blockL_y rfl ?_ | refine awp_seq ?_ | refine awp_block ?_ | refine awp_ret ?_ | refine awp_exit ?_ | refine awp_skip ?_ | exact absurd hcond (by decide) | (first | (refine awp_txt ?_; refine runs_to [] (by simp only [go_sem, hlt, hil, hm, hw, hfa, htb, hfb, hta, hc1, hc2, hc3, Option.some.injEq]; rfl) ?_) | (refine awp_draw mixed ?_; refine runs_to [] (by simp only [go_sem, hlt, hil, hm, hw, hfa, htb, hfb, hta, hc1, hc2, hc3, Option.some.injEq]; rfl) ?_)) | refine runD_nil ⟨by kernel_rfl, ?_⟩ | refine runD_nil ?_ | (refine awp_cond (b := _) (by simp only [go_sem, evB, hlt, hil, hm, hw, hfa, htb, hfb, hta, hc1, hc2, hc3, Option.some.injEq]; rfl) (fun hcond => ?_) (fun hcond => ?_))))
          exact ⟨i + 1, by omega, by omega, (by refine Imp.of_in ?_; simp only [go_sem, hfl])⟩
    · cases tb
      · cases fb
        · have hfl := keep rfl
          (repeat' (first | refine thenL_n ?_ | refine thenL_r ?_ | refine thenL_x ?_ | refine blockL_n ?_ | refine blockL_r ?_ | refine blockL_x ?_ | refine blockL_y rfl ?_ | refine awp_seq ?_ | refine awp_block ?_ | refine awp_ret ?_ | refine awp_exit ?_ | refine awp_skip ?_ | exact absurd hcond (by decide) | (first | (refine awp_txt ?_; refine runs_to [] (by simp only [go_sem, hlt, hil, hm, hw, hfa, htb, hfb, hta, hc1, hc2, hc3, Option.some.injEq]; rfl) ?_) | (refine awp_draw mixed ?_; refine runs_to [] (by simp only [go_sem, hlt, hil, hm, hw, hfa, htb, hfb, hta, hc1, hc2, hc3, Option.some.injEq]; rfl) ?_)) | refine runD_nil ⟨by kernel_rfl, ?_⟩ | refine runD_nil ?_ | (refine awp_cond (b := _) (by simp only [go_sem, evB, hlt, hil, hm, hw, hfa, htb, hfb, hta, hc1, hc2, hc3, Option.some.injEq]; rfl) (fun hcond => ?_) (fun hcond => ?_))))
          exact ⟨i + 1, by omega, by omega, (by refine Imp.back 70 41 (by simp only [go_sem, renL, Loc.ren, Cont.ren, SV.ren, V1.ren, At.ren,  hfl, List.map_append, List.map_cons, List.map_nil]) (by simp only [go_sem, renL, Loc.ren, Cont.ren, SV.ren, V1.ren, At.ren,  hfl, List.map_append, List.map_cons, List.map_nil]) (by simp only [go_sem, renL, Loc.ren, Cont.ren, SV.ren, V1.ren, At.ren,  hfl, List.map_append, List.map_cons, List.map_nil]) (by decide) (by decide) ?_; refine Imp.of_in ?_; simp only [go_sem, renL, Loc.ren, Cont.ren, SV.ren, V1.ren, At.ren,  hfl, List.map_append, List.map_cons, List.map_nil])⟩
        · cases ta
          · have hfl := keep rfl
            (repeat' (first | refine thenL_n ?_ | refine thenL_r ?_ | refine thenL_x ?_ | refine blockL_n ?_ | refine blockL_r ?_ | refine blockL_x ?_ | refine blockL_y rfl ?_ | refine awp_seq ?_ | refine awp_block ?_ | refine awp_ret ?_ | refine awp_exit ?_ | refine awp_skip ?_ | exact absurd hcond (by decide) | (first | (refine awp_txt ?_; refine runs_to [] (by simp only [go_sem, hlt, hil, hm, hw, hfa, htb, hfb, hta, hc1, hc2, hc3, Option.some.injEq]; rfl) ?_) | (refine awp_draw mixed ?_; refine runs_to [] (by simp only [go_sem, hlt, hil, hm, hw, hfa, htb, hfb, hta, hc1, hc2, hc3, Option.some.injEq]; rfl) ?_)) | refine runD_nil ⟨by kernel_rfl, ?_⟩ | refine runD_nil ?_ | (refine awp_cond (b := _) (by simp only [go_sem, evB, hlt, hil, hm, hw, hfa, htb, hfb, hta, hc1, hc2, hc3, Option.some.injEq]; rfl) (fun hcond => ?_) (fun hcond => ?_))))
            exact ⟨i + 1, by omega, by omega, (by refine Imp.back 70 41 (by simp only [go_sem, renL, Loc.ren, Cont.ren, SV.ren, V1.ren, At.ren,  hfl, List.map_append, List.map_cons, List.map_nil]) (by simp only [go_sem, renL, Loc.ren, Cont.ren, SV.ren, V1.ren, At.ren,  hfl, List.map_append, List.map_cons, List.map_nil]) (by simp only [go_sem, renL, Loc.ren, Cont.ren, SV.ren, V1.ren, At.ren,  hfl, List.map_append, List.map_cons, List.map_nil]) (by decide) (by decide) ?_; refine Imp.of_in ?_; simp only [go_sem, renL, Loc.ren, Cont.ren, SV.ren, V1.ren, At.ren,  hfl, List.map_append, List.map_cons, List.map_nil])⟩
          · have hfl := drop rfl
            (repeat' (first | refine thenL_n ?_ | refine thenL_r ?_ | refine thenL_x ?_ | refine blockL_n ?_ | refine blockL_r ?_ | refine blockL_x ?_ | refine blockL_y rfl ?_ | refine awp_seq ?_ | refine awp_block ?_ | refine awp_ret ?_ | refine awp_exit ?_ | refine awp_skip ?_ | exact absurd hcond (by decide) | (first | (refine awp_txt ?_; refine runs_to [] (by simp only [go_sem, hlt, hil, hm, hw, hfa, htb, hfb, hta, hc1, hc2, hc3, Option.some.injEq]; rfl) ?_) | (refine awp_draw mixed ?_; refine runs_to [] (by simp only [go_sem, hlt, hil, hm, hw, hfa, htb, hfb, hta, hc1, hc2, hc3, Option.some.injEq]; rfl) ?_)) | refine runD_nil ⟨by kernel_rfl, ?_⟩ | refine runD_nil ?_ | (refine awp_cond (b := _) (by simp only [go_sem, evB, hlt, hil, hm, hw, hfa, htb, hfb, hta, hc1, hc2, hc3, Option.some.injEq]; rfl) (fun hcond => ?_) (fun hcond => ?_))))
            exact ⟨i + 1, by omega, by omega, (by refine Imp.of_in ?_; simp only [go_sem, hfl])⟩
      · have hfl := drop rfl
        (repeat' (first | refine thenL_n ?_ | refine thenL_r ?_ | refine thenL_x ?_ | refine blockL_n ?_ | refine blockL_r ?_ | refine blockL_x ?_ | refine blockL_y rfl ?_ | refine awp_seq ?_ | refine awp_block ?_ | refine awp_ret ?_ | refine awp_exit ?_ | refine awp_skip ?_ | exact absurd hcond (by decide) | (first | (refine awp_txt ?_; refine runs_to [] (by simp only [go_sem, hlt, hil, hm, hw, hfa, htb, hfb, hta, hc1, hc2, hc3, Option.some.injEq]; rfl) ?_) | (refine awp_draw mixed ?_; refine runs_to [] (by simp only [go_sem, hlt, hil, hm, hw, hfa, htb, hfb, hta, hc1, hc2, hc3, Option.some.injEq]; rfl) ?_)) | refine runD_nil ⟨by kernel_rfl, ?_⟩ | refine runD_nil ?_ | (refine awp_cond (b := _) (by simp only [go_sem, evB, hlt, hil, hm, hw, hfa, htb, hfb, hta, hc1, hc2, hc3, Option.some.injEq]; rfl) (fun hcond => ?_) (fun hcond => ?_))))
        exact ⟨i + 1, by omega, by omega, (by refine Imp.of_in ?_; simp only [go_sem, hfl])⟩
  · have hta : M.take i = M := List.take_of_length_le (by omega)
    rw [hta]
    (repeat' (first | refine thenL_n ?_ | refine thenL_r ?_ | refine thenL_x ?_ | refine blockL_n ?_ | refine blockL_r ?_ | refine blockL_x ?_ | refine blockL_y rfl ?_ | refine awp_seq ?_ | refine awp_block ?_ | refine awp_ret ?_ | refine awp_exit ?_ | refine awp_skip ?_ | exact absurd hcond (by decide) | (first | (refine awp_txt ?_; refine runs_to [] (by simp only [go_sem, hlt, Option.some.injEq]; rfl) ?_) | (refine awp_draw mixed ?_; refine runs_to [] (by simp only [go_sem, hlt, Option.some.injEq]; rfl) ?_)) | refine runD_nil ⟨by kernel_rfl, ?_⟩ | refine runD_nil ?_ | (refine awp_cond (b := _) (by simp only [go_sem, evB, hlt, Option.some.injEq]; rfl) (fun hcond => ?_) (fun hcond => ?_))))
    refine leavesD_ok (by first | exact Or.inl rfl | exact Or.inr rfl) (Imp.takeE 41 40 (by simp only [go_sem, renL, Loc.ren, Cont.ren, SV.ren, V1.ren, At.ren]) (by simp only [go_sem, renL, Loc.ren, Cont.ren, SV.ren, V1.ren, At.ren]; rfl) (by decide) (by simp only [go_sem, renL, Loc.ren, Cont.ren, SV.ren, V1.ren, At.ren]; rfl)) (by simp only [go_sem, resAll, resL]; rfl) (by simp only [packL]; (first | refine SubS.v ?_ | refine SubS.tup ?_); ((repeat' (first | exact All2.nil | refine All2.cons ?_ ?_ | exact SubW.one (SubA.same _) | exact SubW.one (SubA.nil _) | exact SubW.one (SubA.ptr _) | refine SubW.agg ?_ | exact SubA.same _ | exact SubA.nil _ | exact SubA.ptr _)); first | done | fail)) (by simp only [go_sem]; repeat' (first | exact trivial | refine And.intro rfl ?_))
end Go.Proofs.Ytidnlnnobegniaa
set_option maxHeartbeats 4000000
set_option maxRecDepth 10000
set_option linter.unusedVariables false
set_option linter.unusedSimpArgs false
namespace Go.Proofs.Ytidnlnnobegniaa
open Go.AM Go.RowKit
attribute [local irreducible] AWP thenL blockL AM.Leaves LeavesO RunD
attribute [local go_sem] act0 actN actX actFieldM actIndexM actLoadM actStoreM actAllocM actBoxM actBuildM actSliceM actRange
  actEntry actDelB bigT bigOp offHole sizeM keyC actMakeMap actLookup actMapEntry actEntryStore actMapUpdate
  actDelete actClear actLen2 actIndex2 actLoad2 actOne actApp2 actCall2 actMark isZI isZS isOwn
  QHole.at holeB runs stepR actF inF frzA frzW lastW act act1 actPick
  actNil actBin actUn actConv actExtract actFieldAddr actField actAlloc keysOf actBox actLoad treesOf
  actStore actIndex actLen actMx srcL actAppend actMake actBuild actBuildSlice boundL actSlice actCall
  actEqS isStruct isSlice actText actCopy litsOf kindsOK fieldsPlain eqAll eqop dstB dstN
  boolS litB litV sv binv unv lits takeC cellsR trees cellsW mxv
  repl parts fillAt fillRows V1.cs mkV ev evr AM.look put del applyL
  delD wrD undefS SV.to V1.to At.to keysL notIn freshKey PV.up PR.up entry
  entryV evp isAt actPtrNil capsL actFunc sameV sameVs pureCtx doc mkVar AM.Loc.key
  Cont.keys SV.keys V1.keys At.keys Cont.sub SV.sub V1.sub At.sub guardR argsL callR eq_self
  Nat.blt_eq Nat.blt Nat.ble Nat.beq_eq_true_eq beq_self_eq_true Array.toList List.map List.append_eq List.nil_append List.cons_append List.append_nil List.append_assoc
  Bool.and_eq_true decide_true decide_false decide_eq_true_eq Bool.not_true Bool.not_false reduceCtorEq if_true if_false ite_true ite_false reduceIte
  AM.Loc.slot.injEq AM.Loc.cell.injEq AM.Loc.vec.injEq List.getElem?_cons_zero List.getElem?_cons_succ List.getElem?_nil Option.map_some Option.map_none Option.toList List.flatMap_nil List.flatMap_cons Bool.and_true
  Bool.true_and Bool.and_false Bool.false_and Bool.true_eq_false Bool.false_eq_true Nat.reduceBEq Nat.reduceEqDiff bool_beq_tt bool_beq_ff bool_beq_tf bool_beq_ft List.length_cons
  List.length_nil List.drop List.take List.drop_zero List.take_zero List.all_cons List.all_nil Value.oneCell' Nat.zero_add Nat.reduceAdd Nat.reduceMul Nat.reduceSub
  Nat.reduceLT Nat.reduceLeDiff Int.reduceLT Int.reduceLE Int.reduceEq Int.reduceBEq Int.reduceBNe Int.reduceAdd Int.reduceSub Int.reduceMul Int.reduceNeg Int.reduceToNat
  Nat.succ_ne_zero List.replicate and_true true_and and_false false_and and_self ge_iff_le gt_iff_lt bne_self_eq_false List.zip_cons_cons List.zip_nil_left
  List.zip List.zipWith Int.natCast_nonneg Int.toNat_natCast List.getElem?_map List.length_map sT sI sB sR sP rV
  AllIn Int.toNat_zero Int.ofNat_zero Int.natCast_zero Nat.le_refl List.mapM_cons List.mapM_nil Option.bind_eq_bind Option.bind_some Option.bind_none Option.pure_def List.set_cons_zero
  List.set_cons_succ List.length_set cellsF_length cellsF_lit putF_one tt2 tt3 tt4 tt5 tt9 tt12 tt21
  tt22 tt23 tt24 tt30 tt39 tt40 tt41 tt42 tt43 tt44 tt45 tt49
  tt59 tt60 tt61 tt62 tt63 tt66 tt67 tt70 tt94 tt98 mo60 mo61
  mg22 mg3 zz22 zz3 bi50 bi51 bi52 bi54 im60 ho54
attribute [local go_sem] vlit rInt rBool vInts pInts vBy vvBy lI lB nK lN rB msgL rK netF_0 netF_1

def keepF (f t : Int) (ns : List Int) : Bool := ns.foldl (fun k n => (k && (f != n)) && (t != n)) true
def keepL (ns : List Int) (p : MSG) : Bool := keepF p.1 p.2.1 ns
def losD (N : Int) (M : List MSG) (ns : List Int) : Int × List MSG := if ns.any (fun n => badD N n 0) = true then (60, M) else (0, M.filter (keepL ns))

theorem s35 (N room : Int) (M : List MSG) (S : Int → Int → Bool) (clk : List Int) (ns : List Int) (hM : M.length ≤ 8388608) (hl : ns.length ≤ 4611686018427387903) :
    Does Try.prog 35 [.one (.vptr 100020 1 0 0), .one (.t (vInts ns))] (rK 100020 100021 N room M S clk) (.v (.one (lI (losD N M ns).1))) (rK 100020 40 N room (losD N M ns).2 S clk) := by
  refine does_of_body Try.func35 rfl (by simp [Try.f35]) rfl rfl ?_; rw [Try.ntmps35, Try.results35]; intro w0 G0 ρ0
  (repeat' (first | refine thenL_n ?_ | refine thenL_r ?_ | refine thenL_x ?_ | refine blockL_n ?_ | refine blockL_r ?_ | refine blockL_x ?_ | refine blockL_y rfl ?_ | refine awp_seq ?_ | refine awp_block ?_ | refine awp_ret ?_ | refine awp_exit ?_ | refine awp_skip ?_ | exact absurd hcond (by decide) | (first | (refine awp_txt ?_; refine runs_to [] (by simp only [go_sem]; rfl) ?_) | (refine awp_draw mixed ?_; refine runs_to [] (by simp only [go_sem]; rfl) ?_)) | refine runD_nil ⟨by kernel_rfl, ?_⟩ | refine runD_nil ?_ | (refine awp_cond (b := _) (by simp only [go_sem, evB]; rfl) (fun hcond => ?_) (fun hcond => ?_))))
  refine awp_loop (fun i : Nat => (.slot 0, .s (.v (.one (.vptr 100020 1 0 0)))) :: (.slot 1, sT (vInts ns)) :: (.slot 5, sI i) :: rK 100020 100021 N room M S clk) (fun i => i ≤ ns.length ∧ ∀ j n, j < i → ns[j]? = some n → badD N n 0 = false) (fun i => ns.length - i) 0 ⟨Nat.zero_le _, fun j n h => by omega⟩ (by refine Imp.of_in ?_; simp only [go_sem, Int.natCast_zero]) ?_
  rintro i ⟨hi, hall⟩
  by_cases hlt : (i : Int) < ns.length
  · have hil : i < ns.length := by omega
    have hx : ns[i]? = some ns[i] := List.getElem?_eq_getElem hil
    have hmem := List.getElem_mem hil
    generalize ns[i] = n at hx hmem
    have hw := up i (by omega)
    have kw38 := s38 N room M S clk n 0
    cases hb : badD N n 0 with
    | true =>
      rw [hb] at kw38
      have e : losD N M ns = (60, M) := by
        unfold losD
        rw [if_pos]
        rw [List.any_eq_true]
        exact ⟨n, hmem, hb⟩
      rw [e]
      (repeat' (first | refine thenL_n ?_ | refine thenL_r ?_ | refine thenL_x ?_ | refine blockL_n ?_ | refine blockL_r ?_ | refine blockL_x ?_ | refine blockL_y rfl ?_ | refine awp_seq ?_ | refine awp_block ?_ | refine awp_ret ?_ | refine awp_exit ?_ | refine awp_skip ?_ | exact absurd hcond (by decide) | (first | (refine awp_txt ?_; refine runs_to [] (by simp only [go_sem, hlt, hx, hw]; rfl) ?_) | (refine awp_draw mixed ?_; refine runs_to [] (by simp only [go_sem, hlt, hx, hw]; rfl) ?_)) | refine runD_nil ⟨by kernel_rfl, ?_⟩ | refine runD_nil ?_ | (refine runD_looks [(100020, 100020), (100021, 100021)] (kw38) cb38 (by rfl) (.inl (by simp only [go_sem, hlt, hx, hw]; rfl)) (by first | kernel_rfl | rfl) (by simp only [go_sem, ren, dels, adds, rn, At.rn, V1.rn, SV.rn, Cont.rn, Loc.rn, news, vals2, keys2, namesB, locKeys, injOn, noSlots, List.all, List.any, hlt, hx, hw]; ((repeat' (first | exact All2.nil | refine All2.cons ?_ ?_ | exact SubW.one (SubA.same _) | exact SubW.one (SubA.nil _) | exact SubW.one (SubA.ptr _) | refine SubW.agg ?_ | exact SubA.same _ | exact SubA.nil _ | exact SubA.ptr _)); first | done | fail)) (by simp only [go_sem, ren, dels, adds, rn, At.rn, V1.rn, SV.rn, Cont.rn, Loc.rn, news, vals2, keys2, namesB, locKeys, injOn, noSlots, List.all, List.any, hlt, hx, hw]; (repeat' (first | exact trivial | refine And.intro rfl ?_)); first | done | fail) (by simp only [go_sem, ren, dels, adds, rn, At.rn, V1.rn, SV.rn, Cont.rn, Loc.rn, news, vals2, keys2, namesB, locKeys, injOn, noSlots, List.all, List.any, hlt, hx, hw]; (repeat' (first | exact trivial | refine And.intro rfl ?_)); first | done | fail) ?_; simp only [go_sem, ren, dels, adds, rn, At.rn, V1.rn, SV.rn, Cont.rn, Loc.rn, news, vals2, keys2, namesB, locKeys, injOn, noSlots, List.all, List.any, hlt, hx, hw]; refine runs_to [] (by simp only [go_sem, hlt, hx, hw]; rfl) ?_) | (refine awp_cond (b := _) (by simp only [go_sem, evB, hlt, hx, hw]; rfl) (fun hcond => ?_) (fun hcond => ?_))))
      refine leavesD_ok (by first | exact Or.inl rfl | exact Or.inr rfl) (Imp.takeE 100021 40 (by simp only [go_sem, renL, Loc.ren, Cont.ren, SV.ren, V1.ren, At.ren]) (by simp only [go_sem, renL, Loc.ren, Cont.ren, SV.ren, V1.ren, At.ren]; rfl) (by decide) (by simp only [go_sem, renL, Loc.ren, Cont.ren, SV.ren, V1.ren, At.ren]; rfl)) (by simp only [go_sem, resAll, resL]; rfl) (by simp only [packL]; (first | refine SubS.v ?_ | refine SubS.tup ?_); ((repeat' (first | exact All2.nil | refine All2.cons ?_ ?_ | exact SubW.one (SubA.same _) | exact SubW.one (SubA.nil _) | exact SubW.one (SubA.ptr _) | refine SubW.agg ?_ | exact SubA.same _ | exact SubA.nil _ | exact SubA.ptr _)); first | done | fail)) (by simp only [go_sem]; repeat' (first | exact trivial | refine And.intro rfl ?_))
    | false =>
      rw [hb] at kw38
      (repeat' (first | refine thenL_n ?_ | refine thenL_r ?_ | refine thenL_x ?_ | refine blockL_n ?_ | refine blockL_r ?_ | refine blockL_x ?_ | refine blockL_y rfl ?_ | refine awp_seq ?_ | refine awp_block ?_ | refine awp_ret ?_ | refine awp_exit ?_ | refine awp_skip ?_ | exact absurd hcond (by decide) | (first | (refine awp_txt ?_; refine runs_to [] (by simp only [go_sem, hlt, hx, hw]; rfl) ?_) | (refine awp_draw mixed ?_; refine runs_to [] (by simp only [go_sem, hlt, hx, hw]; rfl) ?_)) | refine runD_nil ⟨by kernel_rfl, ?_⟩ | refine runD_nil ?_ | (refine runD_looks [(100020, 100020), (100021, 100021)] (kw38) cb38 (by rfl) (.inl (by simp only [go_sem, hlt, hx, hw]; rfl)) (by first | kernel_rfl | rfl) (by simp only [go_sem, ren, dels, adds, rn, At.rn, V1.rn, SV.rn, Cont.rn, Loc.rn, news, vals2, keys2, namesB, locKeys, injOn, noSlots, List.all, List.any, hlt, hx, hw]; ((repeat' (first | exact All2.nil | refine All2.cons ?_ ?_ | exact SubW.one (SubA.same _) | exact SubW.one (SubA.nil _) | exact SubW.one (SubA.ptr _) | refine SubW.agg ?_ | exact SubA.same _ | exact SubA.nil _ | exact SubA.ptr _)); first | done | fail)) (by simp only [go_sem, ren, dels, adds, rn, At.rn, V1.rn, SV.rn, Cont.rn, Loc.rn, news, vals2, keys2, namesB, locKeys, injOn, noSlots, List.all, List.any, hlt, hx, hw]; (repeat' (first | exact trivial | refine And.intro rfl ?_)); first | done | fail) (by simp only [go_sem, ren, dels, adds, rn, At.rn, V1.rn, SV.rn, Cont.rn, Loc.rn, news, vals2, keys2, namesB, locKeys, injOn, noSlots, List.all, List.any, hlt, hx, hw]; (repeat' (first | exact trivial | refine And.intro rfl ?_)); first | done | fail) ?_; simp only [go_sem, ren, dels, adds, rn, At.rn, V1.rn, SV.rn, Cont.rn, Loc.rn, news, vals2, keys2, namesB, locKeys, injOn, noSlots, List.all, List.any, hlt, hx, hw]; refine runs_to [] (by simp only [go_sem, hlt, hx, hw]; rfl) ?_) | (refine awp_cond (b := _) (by simp only [go_sem, evB, hlt, hx, hw]; rfl) (fun hcond => ?_) (fun hcond => ?_))))
      refine ⟨i + 1, ⟨by omega, fun j m hj hm => ?_⟩, by omega, (by refine Imp.of_in ?_; simp only [go_sem])⟩
      by_cases hji : j = i
      · subst hji; rw [hx] at hm; injection hm with hm; rw [← hm]; exact hb
      · exact hall j m (by omega) hm
  · have e : losD N M ns = (0, M.filter (keepL ns)) := by
      unfold losD
      rw [if_neg]
      rw [List.any_eq_true]
      rintro ⟨n, hn, hb⟩
      obtain ⟨j, hj, rfl⟩ := List.mem_iff_getElem.1 hn
      rw [hall j _ (by omega) (List.getElem?_eq_getElem hj)] at hb
      simp at hb
    rw [e]
    clear e hall
    (repeat' (first | refine thenL_n ?_ | refine thenL_r ?_ | refine thenL_x ?_ | refine blockL_n ?_ | refine blockL_r ?_ | refine blockL_x ?_ | refine blockL_y rfl ?_ | refine awp_seq ?_ | refine awp_block ?_ | refine awp_ret ?_ | refine awp_exit ?_ | refine awp_skip ?_ | exact absurd hcond (by decide) | (first | (refine awp_txt ?_; refine runs_to [] (by simp only [go_sem, hlt]; rfl) ?_) | (refine awp_draw mixed ?_; refine runs_to [] (by simp only [go_sem, hlt]; rfl) ?_)) | refine runD_nil ⟨by kernel_rfl, ?_⟩ | refine runD_nil ?_ | (refine awp_cond (b := _) (by simp only [go_sem, evB, hlt]; rfl) (fun hcond => ?_) (fun hcond => ?_))))
    refine awp_loop (fun i : Nat => (.slot 0, .s (.v (.one (.vptr 100020 1 0 0)))) :: (.slot 1, sT (vInts ns)) :: (.slot 6, sR 41) :: (.vec 41, .r 3 45 (((M.take i).filter (keepL ns)).map msgL)) :: (.slot 7, sI i) :: rK 100020 100021 N room M S clk) (fun i => i ≤ M.length) (fun i => M.length - i) 0 (Nat.zero_le _) (Imp.trans (Imp.adopt 6 41 3 45 (by simp only [go_sem]) (by decide) (by simp only [go_sem])) (by refine Imp.of_in ?_; simp only [go_sem, List.take_zero, List.filter_nil, List.map_nil, Int.natCast_zero])) ?_
    intro i hi
    by_cases hlt : (i : Int) < M.length
    · have hil : i < M.length := by omega
      have hm : M[i]? = some M[i] := List.getElem?_eq_getElem hil
      have hts : M.take (i + 1) = M.take i ++ [M[i]] := List.take_succ_eq_append_getElem hil
      generalize M[i] = x at hm hts
      obtain ⟨f, t, m⟩ := x
      have hw := up i (by omega)
      have hln : ((M.take i).filter (keepL ns)).length ≤ i := by
        have := List.length_filter_le (keepL ns) (M.take i)
        rw [List.length_take] at this; omega
      have hfl : (M.take (i + 1)).filter (keepL ns) = (M.take i).filter (keepL ns) ++ if keepF f t ns = true then [(f, t, m)] else [] := by
        rw [hts, List.filter_append]
        congr 1
        have hk : keepL ns (f, t, m) = keepF f t ns := rfl
        cases h : keepF f t ns <;> simp [hk, h]
      generalize (M.take i).filter (keepL ns) = L at hln hfl
      have hc1 : L.length + 1 ≤ 140737488355328 := by omega
      have hc2 : (L.length + 1) * 40 ≤ 140737488355328 := by omega
      have hc3 : L.length ≤ 140737488355327 := by omega
      (repeat' (first | refine thenL_n ?_ | refine thenL_r ?_ | refine thenL_x ?_ | refine blockL_n ?_ | refine blockL_r ?_ | refine blockL_x ?_ | refine blockL_y rfl ?_ | refine awp_seq ?_ | refine awp_block ?_ | refine awp_ret ?_ | refine awp_exit ?_ | refine awp_skip ?_ | exact absurd hcond (by decide) | (first | (refine awp_txt ?_; refine runs_to [] (by simp only [go_sem, hlt, hil, hm, hw, Option.some.injEq]; rfl) ?_) | (refine awp_draw mixed ?_; refine runs_to [] (by simp only [go_sem, hlt, hil, hm, hw, Option.some.injEq]; rfl) ?_)) | refine runD_nil ⟨by kernel_rfl, ?_⟩ | refine runD_nil ?_ | (refine awp_cond (b := _) (by simp only [go_sem, evB, hlt, hil, hm, hw, Option.some.injEq]; rfl) (fun hcond => ?_) (fun hcond => ?_))))
      refine awp_loop (fun j : Nat => (.slot 0, .s (.v (.one (.vptr 100020 1 0 0)))) :: (.slot 1, sT (vInts ns)) :: (.slot 6, sR 41) :: (.vec 41, .r 3 45 (L.map msgL)) :: (.slot 7, sI i) :: (.slot 8, sT (.lit (.bool (keepF f t (ns.take j))))) :: (.slot 9, sI j) :: rK 100020 100021 N room M S clk) (fun j => j ≤ ns.length) (fun j => ns.length - j) 0 (Nat.zero_le _) (by refine Imp.of_in ?_; simp only [go_sem, List.take_zero, keepF, List.foldl_nil, Int.natCast_zero]) ?_
      intro j hj
      by_cases hjt : (j : Int) < ns.length
      · have hjl : j < ns.length := by omega
        have hn : ns[j]? = some ns[j] := List.getElem?_eq_getElem hjl
        have htj : keepF f t (ns.take (j + 1)) = ((keepF f t (ns.take j) && (f != ns[j])) && (t != ns[j])) := by
          unfold keepF
          rw [List.take_succ_eq_append_getElem hjl, List.foldl_append]; rfl
        generalize ns[j] = n at hn htj
        have hwj := up j (by omega)
        generalize keepF f t (ns.take j) = kk at htj
        obtain ⟨fa, hfa⟩ : ∃ fa, (f != n) = fa := ⟨_, rfl⟩
        obtain ⟨tb, htb⟩ : ∃ tb, (t != n) = tb := ⟨_, rfl⟩
        rw [hfa, htb] at htj
        cases kk
        · simp only [Bool.false_and] at htj
          (repeat' (first | refine thenL_n ?_ | refine thenL_r ?_ | refine thenL_x ?_ | refine blockL_n ?_ | refine blockL_r ?_ | refine blockL_x ?_ | refine blockL_y rfl ?_ | refine awp_seq ?_ | refine awp_block ?_ | refine awp_ret ?_ | refine awp_exit ?_ | refine awp_skip ?_ | exact absurd hcond (by decide) | (first | (refine awp_txt ?_; refine runs_to [] (by simp only [go_sem, hjt, hjl, hn, hwj, hm, hil, hfa, htb, Option.some.injEq]; rfl) ?_) | (refine awp_draw mixed ?_; refine runs_to [] (by simp only [go_sem, hjt, hjl, hn, hwj, hm, hil, hfa, htb, Option.some.injEq]; rfl) ?_)) | refine runD_nil ⟨by kernel_rfl, ?_⟩ | refine runD_nil ?_ | (refine awp_cond (b := _) (by simp only [go_sem, evB, hjt, hjl, hn, hwj, hm, hil, hfa, htb, Option.some.injEq]; rfl) (fun hcond => ?_) (fun hcond => ?_))))
          exact ⟨j + 1, by omega, by omega, (by refine Imp.of_in ?_; simp only [go_sem, htj])⟩
        · cases fa
          · simp only [Bool.and_false, Bool.false_and] at htj
            (repeat' (first | refine thenL_n ?_ | refine thenL_r ?_ | refine thenL_x ?_ | refine blockL_n ?_ | refine blockL_r ?_ | refine blockL_x ?_ | refine blockL_y rfl ?_ | refine awp_seq ?_ | refine awp_block ?_ | refine awp_ret ?_ | refine awp_exit ?_ | refine awp_skip ?_ | exact absurd hcond (by decide) | (first | (refine awp_txt ?_; refine runs_to [] (by simp only [go_sem, hjt, hjl, hn, hwj, hm, hil, hfa, htb, Option.some.injEq]; rfl) ?_) | (refine awp_draw mixed ?_; refine runs_to [] (by simp only [go_sem, hjt, hjl, hn, hwj, hm, hil, hfa, htb, Option.some.injEq]; rfl) ?_)) | refine runD_nil ⟨by kernel_rfl, ?_⟩ | refine runD_nil ?_ | (refine awp_cond (b := _) (by simp only [go_sem, evB, hjt, hjl, hn, hwj, hm, hil, hfa, htb, Option.some.injEq]; rfl) (fun hcond => ?_) (fun hcond => ?_))))
            exact ⟨j + 1, by omega, by omega, (by refine Imp.of_in ?_; simp only [go_sem, htj])⟩
          · simp only [Bool.true_and] at htj
            (repeat' (first | refine thenL_n ?_ | refine thenL_r ?_ | refine thenL_x ?_ | refine blockL_n ?_ | refine blockL_r ?_ | refine blockL_x ?_ | refine blockL_y rfl ?_ | refine awp_seq ?_ | refine awp_block ?_ | refine awp_ret ?_ | refine awp_exit ?_ | refine awp_skip ?_ | exact absurd hcond (by decide) | (first | (refine awp_txt ?_; refine runs_to [] (by simp only [go_sem, hjt, hjl, hn, hwj, hm, hil, hfa, htb, Option.some.injEq]; rfl) ?_) | (refine awp_draw mixed ?_; refine runs_to [] (by simp only [go_sem, hjt, hjl, hn, hwj, hm, hil, hfa, htb, Option.some.injEq]; rfl) ?_)) | refine runD_nil ⟨by kernel_rfl, ?_⟩ | refine runD_nil ?_ | (refine awp_cond (b := _) (by simp only [go_sem, evB, hjt, hjl, hn, hwj, hm, hil, hfa, htb, Option.some.injEq]; rfl) (fun hcond => ?_) (fun hcond => ?_))))
            exact ⟨j + 1, by omega, by omega, (by refine Imp.of_in ?_; simp only [go_sem, htj])⟩
      · have htk : ns.take j = ns := List.take_of_length_le (by omega)
        rw [htk]
        generalize keepF f t ns = kk at hfl
        cases kk
        · have hfl : (M.take (i + 1)).filter (keepL ns) = L := by simpa using hfl
          (repeat' (first | refine thenL_n ?_ | refine thenL_r ?_ | refine thenL_x ?_ | refine blockL_n ?_ | refine blockL_r ?_ | refine blockL_x ?_ | refine blockL_y rfl ?_ | refine awp_seq ?_ | refine awp_block ?_ | refine awp_ret ?_ | refine awp_exit ?_ | refine awp_skip ?_ | exact absurd hcond (by decide) | (first | (refine awp_txt ?_; refine runs_to [] (by simp only [go_sem, hjt, hw]; rfl) ?_) | (refine awp_draw mixed ?_; refine runs_to [] (by simp only [go_sem, hjt, hw]; rfl) ?_)) | refine runD_nil ⟨by kernel_rfl, ?_⟩ | refine runD_nil ?_ | (refine awp_cond (b := _) (by simp only [go_sem, evB, hjt, hw]; rfl) (fun hcond => ?_) (fun hcond => ?_))))
          exact ⟨i + 1, by omega, by omega, (by refine Imp.of_in ?_; simp only [go_sem, hfl])⟩
        · have hfl : (M.take (i + 1)).filter (keepL ns) = L ++ [(f, t, m)] := by simpa using hfl
          (repeat' (first | refine thenL_n ?_ | refine thenL_r ?_ | refine thenL_x ?_ | refine blockL_n ?_ | refine blockL_r ?_ | refine blockL_x ?_ | refine blockL_y rfl ?_ | refine awp_seq ?_ | refine awp_block ?_ | refine awp_ret ?_ | refine awp_exit ?_ | refine awp_skip ?_ | exact absurd hcond (by decide) | (first | (refine awp_txt ?_; refine runs_to [] (by simp only [go_sem, hjt, hw, hm, hil, hc1, hc2, hc3, Option.some.injEq]; rfl) ?_) | (refine awp_draw mixed ?_; refine runs_to [] (by simp only [go_sem, hjt, hw, hm, hil, hc1, hc2, hc3, Option.some.injEq]; rfl) ?_)) | refine runD_nil ⟨by kernel_rfl, ?_⟩ | refine runD_nil ?_ | (refine awp_cond (b := _) (by simp only [go_sem, evB, hjt, hw, hm, hil, hc1, hc2, hc3, Option.some.injEq]; rfl) (fun hcond => ?_) (fun hcond => ?_))))
          exact ⟨i + 1, by omega, by omega, (by refine Imp.back 78 41 (by simp only [go_sem, renL, Loc.ren, Cont.ren, SV.ren, V1.ren, At.ren,  hfl, List.map_append, List.map_cons, List.map_nil]) (by simp only [go_sem, renL, Loc.ren, Cont.ren, SV.ren, V1.ren, At.ren,  hfl, List.map_append, List.map_cons, List.map_nil]) (by simp only [go_sem, renL, Loc.ren, Cont.ren, SV.ren, V1.ren, At.ren,  hfl, List.map_append, List.map_cons, List.map_nil]) (by decide) (by decide) ?_; refine Imp.of_in ?_; simp only [go_sem, renL, Loc.ren, Cont.ren, SV.ren, V1.ren, At.ren,  hfl, List.map_append, List.map_cons, List.map_nil])⟩
    · have hta : M.take i = M := List.take_of_length_le (by omega)
      rw [hta]
      (repeat' (first | refine thenL_n ?_ | refine thenL_r ?_ | refine thenL_x ?_ | refine blockL_n ?_ | refine blockL_r ?_ | refine blockL_x ?_ | refine blockL_y rfl ?_ | refine awp_seq ?_ | refine awp_block ?_ | refine awp_ret ?_ | refine awp_exit ?_ | refine awp_skip ?_ | exact absurd hcond (by decide) | (first | (refine awp_txt ?_; refine runs_to [] (by simp only [go_sem, hlt, Option.some.injEq]; rfl) ?_) | (refine awp_draw mixed ?_; refine runs_to [] (by simp only [go_sem, hlt, Option.some.injEq]; rfl) ?_)) | refine runD_nil ⟨by kernel_rfl, ?_⟩ | refine runD_nil ?_ | (refine awp_cond (b := _) (by simp only [go_sem, evB, hlt, Option.some.injEq]; rfl) (fun hcond => ?_) (fun hcond => ?_))))
      refine leavesD_ok (by first | exact Or.inl rfl | exact Or.inr rfl) (Imp.takeE 41 40 (by simp only [go_sem, renL, Loc.ren, Cont.ren, SV.ren, V1.ren, At.ren]) (by simp only [go_sem, renL, Loc.ren, Cont.ren, SV.ren, V1.ren, At.ren]; rfl) (by decide) (by simp only [go_sem, renL, Loc.ren, Cont.ren, SV.ren, V1.ren, At.ren]; rfl)) (by simp only [go_sem, resAll, resL]; rfl) (by simp only [packL]; (first | refine SubS.v ?_ | refine SubS.tup ?_); ((repeat' (first | exact All2.nil | refine All2.cons ?_ ?_ | exact SubW.one (SubA.same _) | exact SubW.one (SubA.nil _) | exact SubW.one (SubA.ptr _) | refine SubW.agg ?_ | exact SubA.same _ | exact SubA.nil _ | exact SubA.ptr _)); first | done | fail)) (by simp only [go_sem]; repeat' (first | exact trivial | refine And.intro rfl ?_))
end Go.Proofs.Ytidnlnnobegniaa
set_option maxHeartbeats 4000000
set_option maxRecDepth 10000
set_option linter.unusedVariables false
set_option linter.unusedSimpArgs false
namespace Go.Proofs.Ytidnlnnobegniaa
open Go.AM Go.RowKit
attribute [local irreducible] AWP thenL blockL AM.Leaves LeavesO RunD
attribute [local go_sem] act0 actN actX actFieldM actIndexM actLoadM actStoreM actAllocM actBoxM actBuildM actSliceM actRange
  actEntry actDelB bigT bigOp offHole sizeM keyC actMakeMap actLookup actMapEntry actEntryStore actMapUpdate
  actDelete actClear actLen2 actIndex2 actLoad2 actOne actApp2 actCall2 actMark isZI isZS isOwn
  QHole.at holeB runs stepR actF inF frzA frzW lastW act act1 actPick
  actNil actBin actUn actConv actExtract actFieldAddr actField actAlloc keysOf actBox actLoad treesOf
  actStore actIndex actLen actMx srcL actAppend actMake actBuild actBuildSlice boundL actSlice actCall
  actEqS isStruct isSlice actText actCopy litsOf kindsOK fieldsPlain eqAll eqop dstB dstN
  boolS litB litV sv binv unv lits takeC cellsR trees cellsW mxv
  repl parts fillAt fillRows V1.cs mkV ev evr AM.look put del applyL
  delD wrD undefS SV.to V1.to At.to keysL notIn freshKey PV.up PR.up entry
  entryV evp isAt actPtrNil capsL actFunc sameV sameVs pureCtx doc mkVar AM.Loc.key
  Cont.keys SV.keys V1.keys At.keys Cont.sub SV.sub V1.sub At.sub guardR argsL callR eq_self
  Nat.blt_eq Nat.blt Nat.ble Nat.beq_eq_true_eq beq_self_eq_true Array.toList List.map List.append_eq List.nil_append List.cons_append List.append_nil List.append_assoc
  Bool.and_eq_true decide_true decide_false decide_eq_true_eq Bool.not_true Bool.not_false reduceCtorEq if_true if_false ite_true ite_false reduceIte
  AM.Loc.slot.injEq AM.Loc.cell.injEq AM.Loc.vec.injEq List.getElem?_cons_zero List.getElem?_cons_succ List.getElem?_nil Option.map_some Option.map_none Option.toList List.flatMap_nil List.flatMap_cons Bool.and_true
  Bool.true_and Bool.and_false Bool.false_and Bool.true_eq_false Bool.false_eq_true Nat.reduceBEq Nat.reduceEqDiff bool_beq_tt bool_beq_ff bool_beq_tf bool_beq_ft List.length_cons
  List.length_nil List.drop List.take List.drop_zero List.take_zero List.all_cons List.all_nil Value.oneCell' Nat.zero_add Nat.reduceAdd Nat.reduceMul Nat.reduceSub
  Nat.reduceLT Nat.reduceLeDiff Int.reduceLT Int.reduceLE Int.reduceEq Int.reduceBEq Int.reduceBNe Int.reduceAdd Int.reduceSub Int.reduceMul Int.reduceNeg Int.reduceToNat
  Nat.succ_ne_zero List.replicate and_true true_and and_false false_and and_self ge_iff_le gt_iff_lt bne_self_eq_false List.zip_cons_cons List.zip_nil_left
  List.zip List.zipWith Int.natCast_nonneg Int.toNat_natCast List.getElem?_map List.length_map sT sI sB sR sP rV
  AllIn Int.toNat_zero Int.ofNat_zero Int.natCast_zero Nat.le_refl List.mapM_cons List.mapM_nil Option.bind_eq_bind Option.bind_some Option.bind_none Option.pure_def List.set_cons_zero
  List.set_cons_succ List.length_set cellsF_length cellsF_lit putF_one tt2 tt3 tt4 tt5 tt9 tt12 tt21
  tt22 tt23 tt24 tt30 tt39 tt40 tt41 tt42 tt43 tt44 tt45 tt49
  tt59 tt60 tt61 tt62 tt63 tt66 tt67 tt70 tt94 tt98 mo60 mo61
  mg22 mg3 zz22 zz3 bi50 bi51 bi52 bi54 im60 ho54
attribute [local go_sem] vlit rInt rBool vInts pInts vBy vvBy lI lB nK lN rB msgL rK netF_0 netF_1

def arrF (l : List Int) : Nat → Value := fun j => .int .i64 (l.getD j 0)
theorem arr_load (N room : Int) (S : Int → Int → Bool) (clk : List Int) (g : Nat → Value) (i : Nat) (hi : i < 32) : putF g 0 (cellsF (netF N room S clk) 1027 32) i = arrF clk i := by
  unfold putF
  rw [cellsF_length, if_pos ⟨Nat.zero_le _, by omega⟩, litsF_cellsF _ _ _ _ (by omega), Nat.sub_zero]
  unfold netF arrF
  rw [if_neg (by omega), if_neg (by omega), if_neg (by omega), if_neg (by omega), if_pos (by omega), Nat.add_sub_cancel_left]
theorem arr_set (l : List Int) (q : Nat) (v : Int) (hq : q < l.length) (i : Nat) : (if i = q then Value.int .i64 v else arrF l i) = arrF (l.set q v) i := by
  unfold arrF
  by_cases h : i = q
  · subst h; rw [if_pos rfl, List.getD_eq_getElem?_getD, List.getElem?_set_self hq]; rfl
  · rw [if_neg h, List.getD_eq_getElem?_getD, List.getD_eq_getElem?_getD, List.getElem?_set_ne (Ne.symm h)]
theorem arr_store (N room : Int) (S : Int → Int → Bool) (clk nx : List Int) (i : Nat) (hi : i < 1059) : putF (netF N room S clk) 1027 (cellsF (arrF nx) 0 32) i = netF N room S nx i := by
  unfold putF
  rw [cellsF_length]
  by_cases h : 1027 ≤ i
  · rw [if_pos ⟨h, by omega⟩, litsF_cellsF _ _ _ _ (by omega), Nat.zero_add]
    unfold netF arrF
    rw [if_neg (by omega), if_neg (by omega), if_neg (by omega), if_neg (by omega), if_pos hi]
  · rw [if_neg (by omega)]
    unfold netF
    by_cases h0 : i = 0
    · rw [if_pos h0, if_pos h0]
    by_cases h1 : i = 1
    · rw [if_neg h0, if_pos h1, if_neg h0, if_pos h1]
    by_cases h2 : i = 2
    · rw [if_neg h0, if_neg h1, if_pos h2, if_neg h0, if_neg h1, if_pos h2]
    rw [if_neg h0, if_neg h1, if_neg h2, if_pos (by omega), if_neg h0, if_neg h1, if_neg h2, if_pos (by omega)]

theorem bad_eq (k : Nat) (hk : 1 ≤ k) (n : Int) : badD k n 0 = badN k n := by
  unfold badD badN
  have h1 : ¬ (0 : Int) < 0 := by omega
  have h2 : ¬ ((k : Int) ≤ 0) := by omega
  have h3 : ¬ k = 0 := by omega
  simp [h1, h2, h3]

theorem s37 (room : Int) (M : List MSG) (S : Int → Int → Bool) (cs : List Int) (t : Int) (ns : List Int) (h1 : 1 ≤ cs.length) (h2 : cs.length ≤ 32) (hc : okC cs) (hl : ns.length ≤ 4611686018427387903) :
    Does Try.prog 37 [.one (.vptr 100020 1 0 0), .one (lI t), .one (.t (vInts ns))] (rK 100020 100021 cs.length room M S cs) (.v (.one (lI (advR cs t ns).1))) (rK 100020 40 cs.length room M S (advR cs t ns).2) := by
  refine does_of_body Try.func37 rfl (by simp [Try.f37]) rfl rfl ?_; rw [Try.ntmps37, Try.results37]; intro w0 G0 ρ0
  (repeat' (first | refine thenL_n ?_ | refine thenL_r ?_ | refine thenL_x ?_ | refine blockL_n ?_ | refine blockL_r ?_ | refine blockL_x ?_ | refine blockL_y rfl ?_ | refine awp_seq ?_ | refine awp_block ?_ | refine awp_ret ?_ | refine awp_exit ?_ | refine awp_skip ?_ | exact absurd hcond (by decide) | (first | (refine awp_txt ?_; refine runs_to [] (by simp only [go_sem]; rfl) ?_) | (refine awp_draw mixed ?_; refine runs_to [] (by simp only [go_sem]; rfl) ?_)) | refine runD_nil ⟨by kernel_rfl, ?_⟩ | refine runD_nil ?_ | (refine awp_cond (b := _) (by simp only [go_sem, evB]; rfl) (fun hcond => ?_) (fun hcond => ?_))))
  refine awp_loop (fun i : Nat => (.slot 0, .s (.v (.one (.vptr 100020 1 0 0)))) :: (.slot 1, sI t) :: (.slot 2, sT (vInts ns)) :: (.slot 7, sI i) :: rK 100020 100021 cs.length room M S cs) (fun i => i ≤ ns.length ∧ ∀ j n, j < i → ns[j]? = some n → badN cs.length n = false) (fun i => ns.length - i) 0 ⟨Nat.zero_le _, fun j n h => by omega⟩ (by refine Imp.of_in ?_; simp only [go_sem, Int.natCast_zero]) ?_
  rintro i ⟨hi, hall⟩
  by_cases hlt : (i : Int) < ns.length
  · have hil : i < ns.length := by omega
    have hx : ns[i]? = some ns[i] := List.getElem?_eq_getElem hil
    have hmem := List.getElem_mem hil
    generalize ns[i] = n at hx hmem
    have hw := up i (by omega)
    have kw38 := s38 cs.length room M S cs n 0
    rw [bad_eq _ h1] at kw38
    cases hb : badN cs.length n with
    | true =>
      rw [hb] at kw38
      have e : advR cs t ns = (60, cs) := by
        unfold advR
        rw [if_pos]
        rw [List.any_eq_true]
        exact ⟨n, hmem, hb⟩
      rw [e]
      (repeat' (first | refine thenL_n ?_ | refine thenL_r ?_ | refine thenL_x ?_ | refine blockL_n ?_ | refine blockL_r ?_ | refine blockL_x ?_ | refine blockL_y rfl ?_ | refine awp_seq ?_ | refine awp_block ?_ | refine awp_ret ?_ | refine awp_exit ?_ | refine awp_skip ?_ | exact absurd hcond (by decide) | (first | (refine awp_txt ?_; refine runs_to [] (by simp only [go_sem, hlt, hx, hw]; rfl) ?_) | (refine awp_draw mixed ?_; refine runs_to [] (by simp only [go_sem, hlt, hx, hw]; rfl) ?_)) | refine runD_nil ⟨by kernel_rfl, ?_⟩ | refine runD_nil ?_ | (refine runD_looks [(100020, 100020), (100021, 100021)] (kw38) cb38 (by rfl) (.inl (by simp only [go_sem, hlt, hx, hw]; rfl)) (by first | kernel_rfl | rfl) (by simp only [go_sem, ren, dels, adds, rn, At.rn, V1.rn, SV.rn, Cont.rn, Loc.rn, news, vals2, keys2, namesB, locKeys, injOn, noSlots, List.all, List.any, hlt, hx, hw]; ((repeat' (first | exact All2.nil | refine All2.cons ?_ ?_ | exact SubW.one (SubA.same _) | exact SubW.one (SubA.nil _) | exact SubW.one (SubA.ptr _) | refine SubW.agg ?_ | exact SubA.same _ | exact SubA.nil _ | exact SubA.ptr _)); first | done | fail)) (by simp only [go_sem, ren, dels, adds, rn, At.rn, V1.rn, SV.rn, Cont.rn, Loc.rn, news, vals2, keys2, namesB, locKeys, injOn, noSlots, List.all, List.any, hlt, hx, hw]; (repeat' (first | exact trivial | refine And.intro rfl ?_)); first | done | fail) (by simp only [go_sem, ren, dels, adds, rn, At.rn, V1.rn, SV.rn, Cont.rn, Loc.rn, news, vals2, keys2, namesB, locKeys, injOn, noSlots, List.all, List.any, hlt, hx, hw]; (repeat' (first | exact trivial | refine And.intro rfl ?_)); first | done | fail) ?_; simp only [go_sem, ren, dels, adds, rn, At.rn, V1.rn, SV.rn, Cont.rn, Loc.rn, news, vals2, keys2, namesB, locKeys, injOn, noSlots, List.all, List.any, hlt, hx, hw]; refine runs_to [] (by simp only [go_sem, hlt, hx, hw]; rfl) ?_) | (refine awp_cond (b := _) (by simp only [go_sem, evB, hlt, hx, hw]; rfl) (fun hcond => ?_) (fun hcond => ?_))))
      refine leavesD_ok (by first | exact Or.inl rfl | exact Or.inr rfl) (Imp.takeE 100021 40 (by simp only [go_sem, renL, Loc.ren, Cont.ren, SV.ren, V1.ren, At.ren]) (by simp only [go_sem, renL, Loc.ren, Cont.ren, SV.ren, V1.ren, At.ren]; rfl) (by decide) (by simp only [go_sem, renL, Loc.ren, Cont.ren, SV.ren, V1.ren, At.ren]; rfl)) (by simp only [go_sem, resAll, resL]; rfl) (by simp only [packL]; (first | refine SubS.v ?_ | refine SubS.tup ?_); ((repeat' (first | exact All2.nil | refine All2.cons ?_ ?_ | exact SubW.one (SubA.same _) | exact SubW.one (SubA.nil _) | exact SubW.one (SubA.ptr _) | refine SubW.agg ?_ | exact SubA.same _ | exact SubA.nil _ | exact SubA.ptr _)); first | done | fail)) (by simp only [go_sem]; repeat' (first | exact trivial | refine And.intro rfl ?_))
    | false =>
      rw [hb] at kw38
      (repeat' (first | refine thenL_n ?_ | refine thenL_r ?_ | refine thenL_x ?_ | refine blockL_n ?_ | refine blockL_r ?_ | refine blockL_x ?_ | refine blockL_y rfl ?_ | refine awp_seq ?_ | refine awp_block ?_ | refine awp_ret ?_ | refine awp_exit ?_ | refine awp_skip ?_ | exact absurd hcond (by decide) | (first | (refine awp_txt ?_; refine runs_to [] (by simp only [go_sem, hlt, hx, hw]; rfl) ?_) | (refine awp_draw mixed ?_; refine runs_to [] (by simp only [go_sem, hlt, hx, hw]; rfl) ?_)) | refine runD_nil ⟨by kernel_rfl, ?_⟩ | refine runD_nil ?_ | (refine runD_looks [(100020, 100020), (100021, 100021)] (kw38) cb38 (by rfl) (.inl (by simp only [go_sem, hlt, hx, hw]; rfl)) (by first | kernel_rfl | rfl) (by simp only [go_sem, ren, dels, adds, rn, At.rn, V1.rn, SV.rn, Cont.rn, Loc.rn, news, vals2, keys2, namesB, locKeys, injOn, noSlots, List.all, List.any, hlt, hx, hw]; ((repeat' (first | exact All2.nil | refine All2.cons ?_ ?_ | exact SubW.one (SubA.same _) | exact SubW.one (SubA.nil _) | exact SubW.one (SubA.ptr _) | refine SubW.agg ?_ | exact SubA.same _ | exact SubA.nil _ | exact SubA.ptr _)); first | done | fail)) (by simp only [go_sem, ren, dels, adds, rn, At.rn, V1.rn, SV.rn, Cont.rn, Loc.rn, news, vals2, keys2, namesB, locKeys, injOn, noSlots, List.all, List.any, hlt, hx, hw]; (repeat' (first | exact trivial | refine And.intro rfl ?_)); first | done | fail) (by simp only [go_sem, ren, dels, adds, rn, At.rn, V1.rn, SV.rn, Cont.rn, Loc.rn, news, vals2, keys2, namesB, locKeys, injOn, noSlots, List.all, List.any, hlt, hx, hw]; (repeat' (first | exact trivial | refine And.intro rfl ?_)); first | done | fail) ?_; simp only [go_sem, ren, dels, adds, rn, At.rn, V1.rn, SV.rn, Cont.rn, Loc.rn, news, vals2, keys2, namesB, locKeys, injOn, noSlots, List.all, List.any, hlt, hx, hw]; refine runs_to [] (by simp only [go_sem, hlt, hx, hw]; rfl) ?_) | (refine awp_cond (b := _) (by simp only [go_sem, evB, hlt, hx, hw]; rfl) (fun hcond => ?_) (fun hcond => ?_))))
      refine ⟨i + 1, ⟨by omega, fun j m hj hm => ?_⟩, by omega, (by refine Imp.of_in ?_; simp only [go_sem])⟩
      by_cases hji : j = i
      · subst hji; rw [hx] at hm; injection hm with hm; rw [← hm]; exact hb
      · exact hall j m (by omega) hm
  · have hno : ns.any (badN cs.length) = false := by
      rw [List.any_eq_false]
      intro n hn
      obtain ⟨j, hj, rfl⟩ := List.mem_iff_getElem.1 hn
      rw [hall j _ (by omega) (List.getElem?_eq_getElem hj)]
      simp
    clear hall
    by_cases ht : t < 0
    · have e : advR cs t ns = (63, cs) := by simp [advR, hno, ht]
      rw [e]
      (repeat' (first | refine thenL_n ?_ | refine thenL_r ?_ | refine thenL_x ?_ | refine blockL_n ?_ | refine blockL_r ?_ | refine blockL_x ?_ | refine blockL_y rfl ?_ | refine awp_seq ?_ | refine awp_block ?_ | refine awp_ret ?_ | refine awp_exit ?_ | refine awp_skip ?_ | exact absurd hcond (by decide) | (first | (refine awp_txt ?_; refine runs_to [] (by simp only [go_sem, hlt, ht]; rfl) ?_) | (refine awp_draw mixed ?_; refine runs_to [] (by simp only [go_sem, hlt, ht]; rfl) ?_)) | refine runD_nil ⟨by kernel_rfl, ?_⟩ | refine runD_nil ?_ | (refine awp_cond (b := _) (by simp only [go_sem, evB, hlt, ht]; rfl) (fun hcond => ?_) (fun hcond => ?_))))
      refine leavesD_ok (by first | exact Or.inl rfl | exact Or.inr rfl) (Imp.takeE 100021 40 (by simp only [go_sem, renL, Loc.ren, Cont.ren, SV.ren, V1.ren, At.ren]) (by simp only [go_sem, renL, Loc.ren, Cont.ren, SV.ren, V1.ren, At.ren]; rfl) (by decide) (by simp only [go_sem, renL, Loc.ren, Cont.ren, SV.ren, V1.ren, At.ren]; rfl)) (by simp only [go_sem, resAll, resL]; rfl) (by simp only [packL]; (first | refine SubS.v ?_ | refine SubS.tup ?_); ((repeat' (first | exact All2.nil | refine All2.cons ?_ ?_ | exact SubW.one (SubA.same _) | exact SubW.one (SubA.nil _) | exact SubW.one (SubA.ptr _) | refine SubW.agg ?_ | exact SubA.same _ | exact SubA.nil _ | exact SubA.ptr _)); first | done | fail)) (by simp only [go_sem]; repeat' (first | exact trivial | refine And.intro rfl ?_))
    have e : advR cs t ns = match advL t cs ns with | none => (63, cs) | some cs' => (0, cs') := by unfold advR; rw [if_neg (by rw [hno]; simp), if_neg ht]; rfl
    rw [e]
    clear e
    have ht0 : 0 ≤ t := by omega
    have hbn : ∀ n, n ∈ ns → 0 ≤ n ∧ n < cs.length := by
      intro n hn
      rw [List.any_eq_false] at hno
      have := hno n hn
      simp only [badN, Bool.or_eq_true, decide_eq_true_eq, not_or] at this
      omega
    (repeat' (first | refine thenL_n ?_ | refine thenL_r ?_ | refine thenL_x ?_ | refine blockL_n ?_ | refine blockL_r ?_ | refine blockL_x ?_ | refine blockL_y rfl ?_ | refine awp_seq ?_ | refine awp_block ?_ | refine awp_ret ?_ | refine awp_exit ?_ | refine awp_skip ?_ | exact absurd hcond (by decide) | (first | (refine awp_txt ?_; refine runs_to [] (by simp only [go_sem, hlt, ht, cellsF_keys, Nat.mul_one, Nat.add_zero]; rfl) ?_) | (refine awp_draw mixed ?_; refine runs_to [] (by simp only [go_sem, hlt, ht, cellsF_keys, Nat.mul_one, Nat.add_zero]; rfl) ?_)) | refine runD_nil ⟨by kernel_rfl, ?_⟩ | refine runD_nil ?_ | (refine awp_cond (b := _) (by simp only [go_sem, evB, hlt, ht, cellsF_keys, Nat.mul_one, Nat.add_zero]; rfl) (fun hcond => ?_) (fun hcond => ?_))))
    refine awp_imp (Imp.memF 8 (arrF cs) (by simp only [go_sem]; rfl) (fun i hi hne => arr_load _ _ _ _ _ i hi) (by simp only [go_sem]; rfl)) ?_
    refine awp_loop (fun p : Nat × List Int => (.slot 0, .s (.v (.one (.vptr 100020 1 0 0)))) :: (.slot 1, sI t) :: (.slot 2, sT (vInts ns)) :: (.slot 8, .s (.v (.one (.vptr 8 1 0 0)))) :: (.vec 8, .o (.mem 52 32 (arrF p.2) none) []) :: (.slot 9, sI p.1) :: rK 100020 100021 cs.length room M S cs) (fun p => p.1 ≤ ns.length ∧ p.2.length = cs.length ∧ okC p.2 ∧ advL t cs ns = advL t p.2 (ns.drop p.1)) (fun p => ns.length - p.1) (0, cs) ⟨Nat.zero_le _, rfl, hc, rfl⟩ (by refine Imp.of_in ?_; simp only [go_sem, Int.natCast_zero]) ?_
    rintro ⟨i, nx⟩ ⟨hi, hnl, hok, hadv⟩
    simp only at hi hnl hok hadv
    by_cases hlt : (i : Int) < ns.length
    · have hil : i < ns.length := by omega
      have hx : ns[i]? = some ns[i] := List.getElem?_eq_getElem hil
      have hd : ns.drop i = ns[i] :: ns.drop (i + 1) := List.drop_eq_getElem_cons hil
      have hbq := hbn ns[i] (List.getElem_mem _)
      generalize ns[i] = n at hx hd hbq
      have hw := up i (by omega)
      obtain ⟨q, rfl⟩ := Int.eq_ofNat_of_zero_le hbq.1
      have hql : q < nx.length := by omega
      have hq32 : q < 32 := by omega
      have hq33 : q + 1 ≤ 32 := by omega
      have hqi : (q : Int) < ((32 : Nat) : Int) := by omega
      have hq0 : (0 : Int) ≤ q := by omega
      have hnx : nx[q]? = some nx[q] := List.getElem?_eq_getElem hql
      have hgd : nx.getD q 0 = nx[q] := by rw [List.getD_eq_getElem?_getD, hnx]; rfl
      have harr : arrF nx q = .int .i64 nx[q] := by unfold arrF; rw [hgd]
      have hcc := hok nx[q] (List.getElem_mem _)
      rw [hd, advL, Int.toNat_natCast, hgd] at hadv
      generalize nx[q] = c at hnx hgd hcc hadv harr
      have hsub : IntKind.i64.wrap (1099511627776 - c) = 1099511627776 - c := IntWalk.i64_in _ ⟨by omega, by omega⟩
      by_cases hg : 1099511627776 - c < t
      · rw [if_pos hg] at hadv
        rw [hadv]
        (repeat' (first | refine thenL_n ?_ | refine thenL_r ?_ | refine thenL_x ?_ | refine blockL_n ?_ | refine blockL_r ?_ | refine blockL_x ?_ | refine blockL_y rfl ?_ | refine awp_seq ?_ | refine awp_block ?_ | refine awp_ret ?_ | refine awp_exit ?_ | refine awp_skip ?_ | exact absurd hcond (by decide) | (first | (refine awp_txt ?_; refine runs_to [] (by simp only [go_sem, hlt, hx, hw, hq32, hqi, hq0, harr, hsub, hg, Nat.mul_one, Nat.add_zero]; rfl) ?_) | (refine awp_draw mixed ?_; refine runs_to [] (by simp only [go_sem, hlt, hx, hw, hq32, hqi, hq0, harr, hsub, hg, Nat.mul_one, Nat.add_zero]; rfl) ?_)) | refine runD_nil ⟨by kernel_rfl, ?_⟩ | refine runD_nil ?_ | (refine awp_cond (b := _) (by simp only [go_sem, evB, hlt, hx, hw, hq32, hqi, hq0, harr, hsub, hg, Nat.mul_one, Nat.add_zero]; rfl) (fun hcond => ?_) (fun hcond => ?_))))
        refine leavesD_ok (by first | exact Or.inl rfl | exact Or.inr rfl) (Imp.takeE 100021 40 (by simp only [go_sem, renL, Loc.ren, Cont.ren, SV.ren, V1.ren, At.ren]) (by simp only [go_sem, renL, Loc.ren, Cont.ren, SV.ren, V1.ren, At.ren]; rfl) (by decide) (by simp only [go_sem, renL, Loc.ren, Cont.ren, SV.ren, V1.ren, At.ren]; rfl)) (by simp only [go_sem, resAll, resL]; rfl) (by simp only [packL]; (first | refine SubS.v ?_ | refine SubS.tup ?_); ((repeat' (first | exact All2.nil | refine All2.cons ?_ ?_ | exact SubW.one (SubA.same _) | exact SubW.one (SubA.nil _) | exact SubW.one (SubA.ptr _) | refine SubW.agg ?_ | exact SubA.same _ | exact SubA.nil _ | exact SubA.ptr _)); first | done | fail)) (by simp only [go_sem]; repeat' (first | exact trivial | refine And.intro rfl ?_))
      · rw [if_neg hg] at hadv
        have hadd : IntKind.i64.wrap (c + t) = c + t := IntWalk.i64_in _ ⟨by omega, by omega⟩
        (repeat' (first | refine thenL_n ?_ | refine thenL_r ?_ | refine thenL_x ?_ | refine blockL_n ?_ | refine blockL_r ?_ | refine blockL_x ?_ | refine blockL_y rfl ?_ | refine awp_seq ?_ | refine awp_block ?_ | refine awp_ret ?_ | refine awp_exit ?_ | refine awp_skip ?_ | exact absurd hcond (by decide) | (first | (refine awp_txt ?_; refine runs_to [] (by simp only [go_sem, hlt, hx, hw, hq32, hq33, hqi, hq0, harr, hsub, hg, hadd, Nat.mul_one, Nat.add_zero, isLit]; rfl) ?_) | (refine awp_draw mixed ?_; refine runs_to [] (by simp only [go_sem, hlt, hx, hw, hq32, hq33, hqi, hq0, harr, hsub, hg, hadd, Nat.mul_one, Nat.add_zero, isLit]; rfl) ?_)) | refine runD_nil ⟨by kernel_rfl, ?_⟩ | refine runD_nil ?_ | (refine awp_cond (b := _) (by simp only [go_sem, evB, hlt, hx, hw, hq32, hq33, hqi, hq0, harr, hsub, hg, hadd, Nat.mul_one, Nat.add_zero, isLit]; rfl) (fun hcond => ?_) (fun hcond => ?_))))
        exact ⟨(i + 1, nx.set q (c + t)), ⟨by simp only; omega, by simp only [List.length_set]; exact hnl, okC_set hok (by omega), hadv⟩, by simp only; omega, Imp.trans (Imp.memF 8 (arrF (nx.set q (c + t))) (by simp only [go_sem]; rfl) (by intro i hi hne; exact arr_set nx q (c + t) hql i) (by simp only [go_sem]; rfl)) (by refine Imp.of_in ?_; simp only [go_sem])⟩
    · have hd : ns.drop i = [] := by rw [show i = ns.length by omega, List.drop_length]
      rw [hd, advL] at hadv
      rw [hadv]
      (repeat' (first | refine thenL_n ?_ | refine thenL_r ?_ | refine thenL_x ?_ | refine blockL_n ?_ | refine blockL_r ?_ | refine blockL_x ?_ | refine blockL_y rfl ?_ | refine awp_seq ?_ | refine awp_block ?_ | refine awp_ret ?_ | refine awp_exit ?_ | refine awp_skip ?_ | exact absurd hcond (by decide) | ((fail_if_success (refine isReg 16 ?_)); first | (refine awp_txt ?_; refine runs_to [] (by simp only [go_sem, hlt, cellsF_keys, Nat.mul_one, Nat.add_zero]; rfl) ?_) | (refine awp_draw mixed ?_; refine runs_to [] (by simp only [go_sem, hlt, cellsF_keys, Nat.mul_one, Nat.add_zero]; rfl) ?_)) | refine runD_nil ⟨by kernel_rfl, ?_⟩ | refine runD_nil ?_ | (refine awp_cond (b := _) (by simp only [go_sem, evB, hlt, cellsF_keys, Nat.mul_one, Nat.add_zero]; rfl) (fun hcond => ?_) (fun hcond => ?_))))
      refine awp_imp (Imp.memF 100020 (netF cs.length room S nx) (by simp only [go_sem]; rfl) (fun i hi hne => arr_store _ _ _ _ _ i hi) (by simp only [go_sem]; rfl)) ?_
      (repeat' (first | refine thenL_n ?_ | refine thenL_r ?_ | refine thenL_x ?_ | refine blockL_n ?_ | refine blockL_r ?_ | refine blockL_x ?_ | refine blockL_y rfl ?_ | refine awp_seq ?_ | refine awp_block ?_ | refine awp_ret ?_ | refine awp_exit ?_ | refine awp_skip ?_ | exact absurd hcond (by decide) | (first | (refine awp_txt ?_; refine runs_to [] (by simp only [go_sem]; rfl) ?_) | (refine awp_draw mixed ?_; refine runs_to [] (by simp only [go_sem]; rfl) ?_)) | refine runD_nil ⟨by kernel_rfl, ?_⟩ | refine runD_nil ?_ | (refine awp_cond (b := _) (by simp only [go_sem, evB]; rfl) (fun hcond => ?_) (fun hcond => ?_))))
      refine leavesD_ok (by first | exact Or.inl rfl | exact Or.inr rfl) (Imp.takeE 100021 40 (by simp only [go_sem, renL, Loc.ren, Cont.ren, SV.ren, V1.ren, At.ren, cellsF_keys]) (by simp only [go_sem, renL, Loc.ren, Cont.ren, SV.ren, V1.ren, At.ren, cellsF_keys]; rfl) (by decide) (by simp only [go_sem, renL, Loc.ren, Cont.ren, SV.ren, V1.ren, At.ren, cellsF_keys]; rfl)) (by simp only [go_sem, resAll, resL, cellsF_keys]; rfl) (by simp only [packL]; (first | refine SubS.v ?_ | refine SubS.tup ?_); ((repeat' (first | exact All2.nil | refine All2.cons ?_ ?_ | exact SubW.one (SubA.same _) | exact SubW.one (SubA.nil _) | exact SubW.one (SubA.ptr _) | refine SubW.agg ?_ | exact SubA.same _ | exact SubA.nil _ | exact SubA.ptr _)); first | done | fail)) (by simp only [go_sem, cellsF_keys]; repeat' (first | exact trivial | refine And.intro rfl ?_))
end Go.Proofs.Ytidnlnnobegniaa
