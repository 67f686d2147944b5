import Derived.Test.YtidnlnnobegniaaP18
set_option maxHeartbeats 4000000
set_option maxRecDepth 10000
set_option linter.unusedVariables false
set_option linter.unusedSimpArgs false
namespace Go.Proofs.Ytidnlnnobegniaa
open Go.AM Go.RowKit
attribute [local irreducible] AWP thenL blockL AM.Leaves LeavesO RunD
attribute [local go_sem] act0 actN actX actFieldM actIndexM actLoadM actStoreM actAllocM actBoxM actBuildM actSliceM actRange
  actEntry actDelB bigT bigOp offHole sizeM keyC actMakeMap actLookup actMapEntry actEntryStore actMapUpdate
  actDelete actClear actLen2 actIndex2 actLoad2 actOne actApp2 actCall2 actMark isZI isZS isOwn
  QHole.at holeB runs stepR actF inF frzA frzW lastW act act1 actPick
  actNil actBin actUn actConv actExtract actFieldAddr actField actAlloc keysOf actBox actLoad treesOf
  actStore actIndex actLen actMx srcL actAppend actMake actBuild actBuildSlice boundL actSlice actCall
  actEqS isStruct isSlice actText actCopy litsOf kindsOK fieldsPlain eqAll eqop dstB dstN
  boolS litB litV sv binv unv lits takeC cellsR trees cellsW mxv
  repl parts fillAt fillRows V1.cs mkV ev evr AM.look put del applyL
  delD wrD undefS SV.to V1.to At.to keysL notIn freshKey PV.up PR.up entry
  entryV evp isAt actPtrNil capsL actFunc sameV sameVs pureCtx doc mkVar AM.Loc.key
  Cont.keys SV.keys V1.keys At.keys Cont.sub SV.sub V1.sub At.sub guardR argsL callR eq_self
  Nat.blt_eq Nat.blt Nat.ble Nat.beq_eq_true_eq beq_self_eq_true Array.toList List.map List.append_eq List.nil_append List.cons_append List.append_nil List.append_assoc
  Bool.and_eq_true decide_true decide_false decide_eq_true_eq Bool.not_true Bool.not_false reduceCtorEq if_true if_false ite_true ite_false reduceIte
  AM.Loc.slot.injEq AM.Loc.cell.injEq AM.Loc.vec.injEq List.getElem?_cons_zero List.getElem?_cons_succ List.getElem?_nil Option.map_some Option.map_none Option.toList List.flatMap_nil List.flatMap_cons Bool.and_true
  Bool.true_and Bool.and_false Bool.false_and Bool.true_eq_false Bool.false_eq_true Nat.reduceBEq Nat.reduceEqDiff bool_beq_tt bool_beq_ff bool_beq_tf bool_beq_ft List.length_cons
  List.length_nil List.drop List.take List.drop_zero List.take_zero List.all_cons List.all_nil Value.oneCell' Nat.zero_add Nat.reduceAdd Nat.reduceMul Nat.reduceSub
  Nat.reduceLT Nat.reduceLeDiff Int.reduceLT Int.reduceLE Int.reduceEq Int.reduceBEq Int.reduceBNe Int.reduceAdd Int.reduceSub Int.reduceMul Int.reduceNeg Int.reduceToNat
  Nat.succ_ne_zero List.replicate and_true true_and and_false false_and and_self ge_iff_le gt_iff_lt bne_self_eq_false List.zip_cons_cons List.zip_nil_left
  List.zip List.zipWith Int.natCast_nonneg Int.toNat_natCast List.getElem?_map List.length_map sT sI sB sR sP rV
  AllIn Int.toNat_zero Int.ofNat_zero Int.natCast_zero Nat.le_refl List.mapM_cons List.mapM_nil Option.bind_eq_bind Option.bind_some Option.bind_none Option.pure_def List.set_cons_zero
  List.set_cons_succ List.length_set cellsF_length cellsF_lit putF_one tt2 tt3 tt4 tt5 tt9 tt12 tt21
  tt22 tt23 tt24 tt30 tt39 tt40 tt41 tt42 tt43 tt44 tt45 tt49
  tt59 tt60 tt61 tt62 tt63 tt66 tt67 tt70 tt94 tt98 mo60 mo61
  mg22 mg3 zz22 zz3 bi50 bi51 bi52 bi54 im60 ho54
attribute [local go_sem] vlit rInt rBool vInts pInts vBy vvBy lI lB nK lN rB vOps opL msgL rK netF_0 netF_1 netF_2

theorem netF_clk (N room : Int) (S : Int → Int → Bool) (clk : List Int) (i : Nat) (hi : i < 32) : netF N room S clk (1027 + i) = .int .i64 (clk.getD i 0) := by
  unfold netF
  rw [if_neg (by omega), if_neg (by omega), if_neg (by omega), if_neg (by omega), if_pos (by omega), Nat.add_sub_cancel_left]

theorem I.cntEq {k : Nat} {room : Int} {cs : List Int} {Q : QF} {S : SF} {M : List MSG} {C : Int → Int → Bool} (h : I k room cs Q S M C) (a b : Int) : cntD k M a b = cntR k Q a b := by
  unfold cntD cntR
  rw [bad_bad, h.cnt]

/-- A network answers as the document says. -/
theorem c6 (n room : Int) (ops : List OP) (hn : ops.length ≤ 4611686018427387903) (ho : ∀ o, o ∈ ops → o.ok) : Pure Try.prog 6 [vlit (.int .i64 n), vlit (.int .i64 room), .one (vOps ops)] (rBool true) := by
  have k19 := c19 n room
  by_cases hb : n < 1 ∨ 32 < n
  · have k8 := c8a n room hb
    have e : chkD n room = 60 := by unfold chkD; rw [if_pos hb]
    rw [e] at k19
    refine pure_of_body Try.func6 rfl (by simp [Try.f6]) ?_; rw [Try.ntmps6, Try.results6]; intro w0 G0
    ((repeat' (first | refine thenL_n ?_ | refine thenL_r ?_ | refine thenL_x ?_ | refine blockL_n ?_ | refine blockL_r ?_ | refine blockL_x ?_ | refine blockL_y rfl ?_ | refine awp_seq ?_ | refine awp_block ?_ | refine awp_ret ?_ | refine awp_exit ?_ | refine awp_skip ?_ | exact absurd hcond (by decide) | (first | (refine awp_txt ?_; refine runs_to [] (by simp only [go_sem]; rfl) ?_) | (refine awp_draw mixed ?_; refine runs_to [] (by simp only [go_sem]; rfl) ?_)) | refine runD_nil ⟨by kernel_rfl, ?_⟩ | refine runD_nil ?_ | (refine runD_call (k8) cb8 (by rfl) (by simp only [go_sem]; rfl) (by ((repeat' (first | exact All2.nil | refine All2.cons ?_ ?_ | exact SubV.one (SubT.same _) | exact SubV.one (SubT.nil _) | refine SubV.agg ?_ | exact SubT.same _ | exact SubT.nil _)); first | done | fail)) ?_; refine runs_to [] (by simp only [go_sem]; rfl) ?_) | (refine runD_call (k19) cb19 (by rfl) (by simp only [go_sem]; rfl) (by ((repeat' (first | exact All2.nil | refine All2.cons ?_ ?_ | exact SubV.one (SubT.same _) | exact SubV.one (SubT.nil _) | refine SubV.agg ?_ | exact SubT.same _ | exact SubT.nil _)); first | done | fail)) ?_; refine runs_to [] (by simp only [go_sem]; rfl) ?_) | (refine runD_call (c11) cb11 (by rfl) (by simp only [go_sem]; rfl) (by ((repeat' (first | exact All2.nil | refine All2.cons ?_ ?_ | exact SubV.one (SubT.same _) | exact SubV.one (SubT.nil _) | refine SubV.agg ?_ | exact SubT.same _ | exact SubT.nil _)); first | done | fail)) ?_; refine runs_to [] (by simp only [go_sem]; rfl) ?_) | (refine awp_cond (b := _) (by simp only [go_sem, evB]; rfl) (fun hcond => ?_) (fun hcond => ?_)))); all_goals (refine leaves_ok (by first | exact Or.inl rfl | exact Or.inr rfl) (by simp only [go_sem, resAll, resL, packL, vecsOf, freezeAll, freezeL]; rfl) ?_; (first | refine SubR.v ?_ | refine SubR.tup ?_); ((repeat' (first | exact All2.nil | refine All2.cons ?_ ?_ | exact SubV.one (SubT.same _) | exact SubV.one (SubT.nil _) | refine SubV.agg ?_ | exact SubT.same _ | exact SubT.nil _)); first | done | fail)))
  by_cases hb2 : room < 1 ∨ 4096 < room
  · have k8 := c8b n room hb hb2
    have e : chkD n room = 61 := by unfold chkD; rw [if_neg hb, if_pos hb2]
    rw [e] at k19
    refine pure_of_body Try.func6 rfl (by simp [Try.f6]) ?_; rw [Try.ntmps6, Try.results6]; intro w0 G0
    ((repeat' (first | refine thenL_n ?_ | refine thenL_r ?_ | refine thenL_x ?_ | refine blockL_n ?_ | refine blockL_r ?_ | refine blockL_x ?_ | refine blockL_y rfl ?_ | refine awp_seq ?_ | refine awp_block ?_ | refine awp_ret ?_ | refine awp_exit ?_ | refine awp_skip ?_ | exact absurd hcond (by decide) | (first | (refine awp_txt ?_; refine runs_to [] (by simp only [go_sem]; rfl) ?_) | (refine awp_draw mixed ?_; refine runs_to [] (by simp only [go_sem]; rfl) ?_)) | refine runD_nil ⟨by kernel_rfl, ?_⟩ | refine runD_nil ?_ | (refine runD_call (k8) cb8 (by rfl) (by simp only [go_sem]; rfl) (by ((repeat' (first | exact All2.nil | refine All2.cons ?_ ?_ | exact SubV.one (SubT.same _) | exact SubV.one (SubT.nil _) | refine SubV.agg ?_ | exact SubT.same _ | exact SubT.nil _)); first | done | fail)) ?_; refine runs_to [] (by simp only [go_sem]; rfl) ?_) | (refine runD_call (k19) cb19 (by rfl) (by simp only [go_sem]; rfl) (by ((repeat' (first | exact All2.nil | refine All2.cons ?_ ?_ | exact SubV.one (SubT.same _) | exact SubV.one (SubT.nil _) | refine SubV.agg ?_ | exact SubT.same _ | exact SubT.nil _)); first | done | fail)) ?_; refine runs_to [] (by simp only [go_sem]; rfl) ?_) | (refine runD_call (c11) cb11 (by rfl) (by simp only [go_sem]; rfl) (by ((repeat' (first | exact All2.nil | refine All2.cons ?_ ?_ | exact SubV.one (SubT.same _) | exact SubV.one (SubT.nil _) | refine SubV.agg ?_ | exact SubT.same _ | exact SubT.nil _)); first | done | fail)) ?_; refine runs_to [] (by simp only [go_sem]; rfl) ?_) | (refine awp_cond (b := _) (by simp only [go_sem, evB]; rfl) (fun hcond => ?_) (fun hcond => ?_)))); all_goals (refine leaves_ok (by first | exact Or.inl rfl | exact Or.inr rfl) (by simp only [go_sem, resAll, resL, packL, vecsOf, freezeAll, freezeL]; rfl) ?_; (first | refine SubR.v ?_ | refine SubR.tup ?_); ((repeat' (first | exact All2.nil | refine All2.cons ?_ ?_ | exact SubV.one (SubT.same _) | exact SubV.one (SubT.nil _) | refine SubV.agg ?_ | exact SubT.same _ | exact SubT.nil _)); first | done | fail)))
  have e : chkD n room = 0 := by unfold chkD; rw [if_neg hb, if_neg hb2]
  rw [e] at k19
  clear e
  obtain ⟨k, rfl⟩ := Int.eq_ofNat_of_zero_le (show 0 ≤ n by omega)
  have hk1 : 1 ≤ k := by omega
  have hk : k ≤ 32 := by omega
  have hr0 : 0 ≤ room := by omega
  have hr2 : room ≤ 4096 := by omega
  obtain ⟨Q0, hQ0⟩ : ∃ Q0 : QF, Q0 = fun _ _ => [] := ⟨_, rfl⟩
  obtain ⟨S0, hS0⟩ : ∃ S0 : SF, S0 = fun _ _ => 0 := ⟨_, rfl⟩
  obtain ⟨cs0, hcs⟩ : ∃ cs : List Int, cs = List.replicate k 0 := ⟨_, rfl⟩
  have kw8 : Does Try.prog 8 [.one (lI k), .one (lI room)] [] (.tup [.one (.ptr 26 0), .one (lI 0)]) (nK 26 21 23 24 cs0 room Q0 .none [] S0) := by
    have := s8 k room hb hb2
    rwa [Int.toNat_natCast, ← hQ0, ← hS0, ← hcs] at this
  have hI0 : I k room cs0 Q0 S0 [] (fun _ _ => false) := by
    refine ⟨⟨by rw [hcs]; simp, fun c hc => ?_, fun a b => by rw [hQ0]; simp; omega, fun a b m hm => by rw [hQ0] at hm; simp at hm⟩, fun a b => by rw [hQ0]; simp, fun p hp => by simp at hp, fun a b => by rw [hS0]; simp⟩
    rw [hcs] at hc
    have := List.eq_of_mem_replicate hc
    omega
  have hbox := box_eq k room k
  rw [← hcs] at hbox
  clear hQ0 hS0 hcs
  refine pure_of_body Try.func6 rfl (by simp [Try.f6]) ?_; rw [Try.ntmps6, Try.results6]; intro w0 G0
  (repeat' (first | refine thenL_n ?_ | refine thenL_r ?_ | refine thenL_x ?_ | refine blockL_n ?_ | refine blockL_r ?_ | refine blockL_x ?_ | refine blockL_y rfl ?_ | refine awp_seq ?_ | refine awp_block ?_ | refine awp_ret ?_ | refine awp_exit ?_ | refine awp_skip ?_ | exact absurd hcond (by decide) | (first | (refine awp_txt ?_; refine runs_to [] (by simp only [go_sem, hbox]; rfl) ?_) | (refine awp_draw mixed ?_; refine runs_to [] (by simp only [go_sem, hbox]; rfl) ?_)) | refine runD_nil ⟨by kernel_rfl, ?_⟩ | refine runD_nil ?_ | (refine runD_does [] [26, 21, 23, 24] (kw8) cb8 (by rfl) (.inl (by simp only [go_sem, hbox]; rfl)) (by simp only [go_sem, ren, dels, adds, rn, At.rn, V1.rn, SV.rn, Cont.rn, Loc.rn, news, vals2, keys2, namesB, locKeys, injOn, noSlots, List.all, List.any, hbox]; rfl) (by first | kernel_rfl | rfl) (by simp only [go_sem, ren, dels, adds, rn, At.rn, V1.rn, SV.rn, Cont.rn, Loc.rn, news, vals2, keys2, namesB, locKeys, injOn, noSlots, List.all, List.any, hbox]; ((repeat' (first | exact All2.nil | refine All2.cons ?_ ?_ | exact SubW.one (SubA.same _) | exact SubW.one (SubA.nil _) | exact SubW.one (SubA.ptr _) | refine SubW.agg ?_ | exact SubA.same _ | exact SubA.nil _ | exact SubA.ptr _)); first | done | fail)) (by simp only [go_sem, ren, dels, adds, rn, At.rn, V1.rn, SV.rn, Cont.rn, Loc.rn, news, vals2, keys2, namesB, locKeys, injOn, noSlots, List.all, List.any, hbox]; (repeat' (first | exact trivial | refine And.intro rfl ?_)); first | done | fail) (by simp only [go_sem, ren, dels, adds, rn, At.rn, V1.rn, SV.rn, Cont.rn, Loc.rn, news, vals2, keys2, namesB, locKeys, injOn, noSlots, List.all, List.any, hbox]; (repeat' (first | exact trivial | refine And.intro rfl ?_)); first | done | fail) ?_; simp only [go_sem, ren, dels, adds, rn, At.rn, V1.rn, SV.rn, Cont.rn, Loc.rn, news, vals2, keys2, namesB, locKeys, injOn, noSlots, List.all, List.any, hbox]; refine runs_to [] (by simp only [go_sem, hbox]; rfl) ?_) | (refine runD_call (k19) cb19 (by rfl) (by simp only [go_sem, hbox]; rfl) (by ((repeat' (first | exact All2.nil | refine All2.cons ?_ ?_ | exact SubV.one (SubT.same _) | exact SubV.one (SubT.nil _) | refine SubV.agg ?_ | exact SubT.same _ | exact SubT.nil _)); first | done | fail)) ?_; refine runs_to [] (by simp only [go_sem, hbox]; rfl) ?_) | (refine awp_cond (b := _) (by simp only [go_sem, evB, hbox]; rfl) (fun hcond => ?_) (fun hcond => ?_))))
  refine awp_imp (Imp.takeE 2052 41 (by simp only [go_sem, fixL, Cont.fix, SV.fix, V1.fix, At.fix, cellsT, renL, Loc.ren, Cont.ren, SV.ren, V1.ren, At.ren, freezeL, cellsF_keys]) (by simp only [go_sem, fixL, Cont.fix, SV.fix, V1.fix, At.fix, cellsT, renL, Loc.ren, Cont.ren, SV.ren, V1.ren, At.ren, freezeL, cellsF_keys]; rfl) (by decide) (by simp only [go_sem, fixL, Cont.fix, SV.fix, V1.fix, At.fix, cellsT, renL, Loc.ren, Cont.ren, SV.ren, V1.ren, At.ren, freezeL, cellsF_keys]; rfl)) ?_
  refine awp_loop (fun p : Nat × List Int × QF × SF × List MSG × (Int → Int → Bool) => (.slot 0, sI k) :: (.slot 7, .s (.v (.one (.ptr 25 0)))) :: (.slot 10, .s (.v (.one (.vptr 52 1 0 0)))) :: (.slot 53, sT (vOps ops)) :: (.slot 54, sI ops.length) :: (.slot 55, sI p.1) :: (nK 25 3025 6025 9025 p.2.1 room p.2.2.1 .none [] p.2.2.2.1 ++ rK 52 41 k room p.2.2.2.2.1 p.2.2.2.2.2 p.2.1)) (fun p => p.1 ≤ ops.length ∧ I k room p.2.1 p.2.2.1 p.2.2.2.1 p.2.2.2.2.1 p.2.2.2.2.2) (fun p => ops.length - p.1) (0, cs0, Q0, S0, [], fun _ _ => false) ⟨Nat.zero_le _, hI0⟩ (by refine Imp.of_in ?_; simp only [go_sem, List.map_nil, Int.natCast_zero]) ?_
  rintro ⟨i, cs, Q, S, M, C⟩ ⟨hi, hI⟩
  simp only at hi hI
  by_cases hlt : (i : Int) < ops.length
  · have hil : i < ops.length := by omega
    have hxi : ops[i]? = some ops[i] := List.getElem?_eq_getElem hil
    have hoo := ho ops[i] (List.getElem_mem _)
    generalize ops[i] = o at hxi hoo
    have hw := up i (by omega)
    obtain ⟨cs', Q', S', M', C', kw20, hI'⟩ := stepP hI hk1 hk hr0 hr2 hoo
    unfold Steps argsS at kw20
    have hlen := hI'.j.len
    have kw14 := s14 cs' room Q' S' o.a o.b
    have kw21 := s21 k room M' C' cs' o.a o.b (by have := hI'.size hk hr2; omega)
    rw [hI'.cntEq] at kw21
    rw [hlen] at kw14
    generalize cntR k Q' o.a o.b = y at kw14 kw21
    obtain ⟨y1, y2⟩ := y
    simp only at kw14 kw21
    (repeat' (first | refine thenL_n ?_ | refine thenL_r ?_ | refine thenL_x ?_ | refine blockL_n ?_ | refine blockL_r ?_ | refine blockL_x ?_ | refine blockL_y rfl ?_ | refine awp_seq ?_ | refine awp_block ?_ | refine awp_ret ?_ | refine awp_exit ?_ | refine awp_skip ?_ | exact absurd hcond (by decide) | (first | (refine awp_txt ?_; refine runs_to [] (by simp only [go_sem, hlt, hxi, hw]; rfl) ?_) | (refine awp_draw mixed ?_; refine runs_to [] (by simp only [go_sem, hlt, hxi, hw]; rfl) ?_)) | refine runD_nil ⟨by kernel_rfl, ?_⟩ | refine runD_nil ?_ | (refine runD_does [(100000, 25), (100001, 3025), (100002, 6025), (100003, 9025), (100020, 52), (100021, 41)] [40] (kw20) cb20 (by rfl) (.inl (by simp only [go_sem, hlt, hxi, hw]; rfl)) (by simp only [go_sem, ren, dels, adds, rn, At.rn, V1.rn, SV.rn, Cont.rn, Loc.rn, news, vals2, keys2, namesB, locKeys, injOn, noSlots, List.all, List.any, hlt, hxi, hw]; rfl) (by first | kernel_rfl | rfl) (by simp only [go_sem, ren, dels, adds, rn, At.rn, V1.rn, SV.rn, Cont.rn, Loc.rn, news, vals2, keys2, namesB, locKeys, injOn, noSlots, List.all, List.any, hlt, hxi, hw]; ((repeat' (first | exact All2.nil | refine All2.cons ?_ ?_ | exact SubW.one (SubA.same _) | exact SubW.one (SubA.nil _) | exact SubW.one (SubA.ptr _) | refine SubW.agg ?_ | exact SubA.same _ | exact SubA.nil _ | exact SubA.ptr _)); first | done | fail)) (by simp only [go_sem, ren, dels, adds, rn, At.rn, V1.rn, SV.rn, Cont.rn, Loc.rn, news, vals2, keys2, namesB, locKeys, injOn, noSlots, List.all, List.any, hlt, hxi, hw]; (repeat' (first | exact trivial | refine And.intro rfl ?_)); first | done | fail) (by simp only [go_sem, ren, dels, adds, rn, At.rn, V1.rn, SV.rn, Cont.rn, Loc.rn, news, vals2, keys2, namesB, locKeys, injOn, noSlots, List.all, List.any, hlt, hxi, hw]; (repeat' (first | exact trivial | refine And.intro rfl ?_)); first | done | fail) ?_; simp only [go_sem, ren, dels, adds, rn, At.rn, V1.rn, SV.rn, Cont.rn, Loc.rn, news, vals2, keys2, namesB, locKeys, injOn, noSlots, List.all, List.any, hlt, hxi, hw]; refine runs_to [] (by simp only [go_sem, hlt, hxi, hw]; rfl) ?_) | (refine runD_looks [(100000, 25), (100001, 3025), (100002, 6025), (100003, 9025)] (kw14) cb14 (by rfl) (.inl (by simp only [go_sem, hlt, hxi, hw]; rfl)) (by first | kernel_rfl | rfl) (by simp only [go_sem, ren, dels, adds, rn, At.rn, V1.rn, SV.rn, Cont.rn, Loc.rn, news, vals2, keys2, namesB, locKeys, injOn, noSlots, List.all, List.any, hlt, hxi, hw]; ((repeat' (first | exact All2.nil | refine All2.cons ?_ ?_ | exact SubW.one (SubA.same _) | exact SubW.one (SubA.nil _) | exact SubW.one (SubA.ptr _) | refine SubW.agg ?_ | exact SubA.same _ | exact SubA.nil _ | exact SubA.ptr _)); first | done | fail)) (by simp only [go_sem, ren, dels, adds, rn, At.rn, V1.rn, SV.rn, Cont.rn, Loc.rn, news, vals2, keys2, namesB, locKeys, injOn, noSlots, List.all, List.any, hlt, hxi, hw]; (repeat' (first | exact trivial | refine And.intro rfl ?_)); first | done | fail) (by simp only [go_sem, ren, dels, adds, rn, At.rn, V1.rn, SV.rn, Cont.rn, Loc.rn, news, vals2, keys2, namesB, locKeys, injOn, noSlots, List.all, List.any, hlt, hxi, hw]; (repeat' (first | exact trivial | refine And.intro rfl ?_)); first | done | fail) ?_; simp only [go_sem, ren, dels, adds, rn, At.rn, V1.rn, SV.rn, Cont.rn, Loc.rn, news, vals2, keys2, namesB, locKeys, injOn, noSlots, List.all, List.any, hlt, hxi, hw]; refine runs_to [] (by simp only [go_sem, hlt, hxi, hw]; rfl) ?_) | (refine runD_looks [(100020, 52), (100021, 62)] (kw21) cb21 (by rfl) (.inl (by simp only [go_sem, hlt, hxi, hw]; rfl)) (by first | kernel_rfl | rfl) (by simp only [go_sem, ren, dels, adds, rn, At.rn, V1.rn, SV.rn, Cont.rn, Loc.rn, news, vals2, keys2, namesB, locKeys, injOn, noSlots, List.all, List.any, hlt, hxi, hw]; ((repeat' (first | exact All2.nil | refine All2.cons ?_ ?_ | exact SubW.one (SubA.same _) | exact SubW.one (SubA.nil _) | exact SubW.one (SubA.ptr _) | refine SubW.agg ?_ | exact SubA.same _ | exact SubA.nil _ | exact SubA.ptr _)); first | done | fail)) (by simp only [go_sem, ren, dels, adds, rn, At.rn, V1.rn, SV.rn, Cont.rn, Loc.rn, news, vals2, keys2, namesB, locKeys, injOn, noSlots, List.all, List.any, hlt, hxi, hw]; (repeat' (first | exact trivial | refine And.intro rfl ?_)); first | done | fail) (by simp only [go_sem, ren, dels, adds, rn, At.rn, V1.rn, SV.rn, Cont.rn, Loc.rn, news, vals2, keys2, namesB, locKeys, injOn, noSlots, List.all, List.any, hlt, hxi, hw]; (repeat' (first | exact trivial | refine And.intro rfl ?_)); first | done | fail) ?_; simp only [go_sem, ren, dels, adds, rn, At.rn, V1.rn, SV.rn, Cont.rn, Loc.rn, news, vals2, keys2, namesB, locKeys, injOn, noSlots, List.all, List.any, hlt, hxi, hw]; refine runs_to [] (by simp only [go_sem, hlt, hxi, hw]; rfl) ?_) | (refine awp_cond (b := _) (by simp only [go_sem, evB, hlt, hxi, hw]; rfl) (fun hcond => ?_) (fun hcond => ?_))))
    refine awp_loop (fun j : Nat => (.slot 0, sI k) :: (.slot 7, .s (.v (.one (.ptr 25 0)))) :: (.slot 10, .s (.v (.one (.vptr 52 1 0 0)))) :: (.slot 90, sI k) :: (.slot 91, sI j) :: (.slot 53, sT (vOps ops)) :: (.slot 54, sI ops.length) :: (.slot 55, sI i) :: (nK 25 3025 6025 9025 cs' room Q' .none [] S' ++ rK 52 62 k room M' C' cs')) (fun j => j ≤ k) (fun j => k - j) 0 (Nat.zero_le _) (by refine Imp.of_in ?_; simp only [go_sem, Int.natCast_zero]) ?_
    intro j hj
    by_cases hjt : (j : Int) < (k : Int)
    · have hjc : j < cs'.length := by omega
      have hc : cs'[j]? = some cs'[j] := List.getElem?_eq_getElem hjc
      have hgc : cs'.getD j 0 = cs'[j] := by rw [List.getD_eq_getElem?_getD, hc]; rfl
      have hclk := netF_clk k room C' cs' j (by omega)
      rw [hgc] at hclk
      generalize cs'[j] = c at hc hclk
      have hwj := up j (by omega)
      have kw22 := c22b cs' j c hc
      have h1 : (0 : Int) ≤ j := by omega
      have h2 : (j : Int) < ((32 : Nat) : Int) := by omega
      have h3 : 1027 + j < 1059 := by omega
      have h4 : (2 = 1027 + j) = False := by simp; omega
      (repeat' (first | refine thenL_n ?_ | refine thenL_r ?_ | refine thenL_x ?_ | refine blockL_n ?_ | refine blockL_r ?_ | refine blockL_x ?_ | refine blockL_y rfl ?_ | refine awp_seq ?_ | refine awp_block ?_ | refine awp_ret ?_ | refine awp_exit ?_ | refine awp_skip ?_ | exact absurd hcond (by decide) | (first | (refine awp_txt ?_; refine runs_to [] (by simp only [go_sem, hjt, hwj, hclk, h1, h2, h3, h4, Option.some.injEq, Nat.mul_one, Nat.add_zero]; rfl) ?_) | (refine awp_draw mixed ?_; refine runs_to [] (by simp only [go_sem, hjt, hwj, hclk, h1, h2, h3, h4, Option.some.injEq, Nat.mul_one, Nat.add_zero]; rfl) ?_)) | refine runD_nil ⟨by kernel_rfl, ?_⟩ | refine runD_nil ?_ | (refine runD_lend (kw22) cb22 (by rfl) (.inl (by simp only [go_sem, hjt, hwj, hclk, h1, h2, h3, h4, Option.some.injEq, Nat.mul_one, Nat.add_zero]; rfl)) (by simp only [go_sem, lendL, lendV, lendA, lendAs, hjt, hwj, hclk, h1, h2, h3, h4, Option.some.injEq, Nat.mul_one, Nat.add_zero]; rfl) (by ((repeat' (first | exact All2.nil | refine All2.cons ?_ ?_ | exact SubV.one (SubT.same _) | exact SubV.one (SubT.nil _) | refine SubV.agg ?_ | exact SubT.same _ | exact SubT.nil _)); first | done | fail)) (by rfl) ?_; refine runs_to [] (by simp only [go_sem, hjt, hwj, hclk, h1, h2, h3, h4, Option.some.injEq, Nat.mul_one, Nat.add_zero]; rfl) ?_) | (refine awp_cond (b := _) (by simp only [go_sem, evB, hjt, hwj, hclk, h1, h2, h3, h4, Option.some.injEq, Nat.mul_one, Nat.add_zero]; rfl) (fun hcond => ?_) (fun hcond => ?_))))
      exact ⟨j + 1, by omega, by omega, (by refine Imp.of_in ?_; simp only [go_sem])⟩
    · have kw22 := c22a cs' k (by unfold badN; rw [hlen]; simp)
      (repeat' (first | refine thenL_n ?_ | refine thenL_r ?_ | refine thenL_x ?_ | refine blockL_n ?_ | refine blockL_r ?_ | refine blockL_x ?_ | refine blockL_y rfl ?_ | refine awp_seq ?_ | refine awp_block ?_ | refine awp_ret ?_ | refine awp_exit ?_ | refine awp_skip ?_ | exact absurd hcond (by decide) | (first | (refine awp_txt ?_; refine runs_to [] (by simp only [go_sem, hjt, hw]; rfl) ?_) | (refine awp_draw mixed ?_; refine runs_to [] (by simp only [go_sem, hjt, hw]; rfl) ?_)) | refine runD_nil ⟨by kernel_rfl, ?_⟩ | refine runD_nil ?_ | (refine runD_lend (kw22) cb22 (by rfl) (.inl (by simp only [go_sem, hjt, hw]; rfl)) (by simp only [go_sem, lendL, lendV, lendA, lendAs, hjt, hw]; rfl) (by ((repeat' (first | exact All2.nil | refine All2.cons ?_ ?_ | exact SubV.one (SubT.same _) | exact SubV.one (SubT.nil _) | refine SubV.agg ?_ | exact SubT.same _ | exact SubT.nil _)); first | done | fail)) (by rfl) ?_; refine runs_to [] (by simp only [go_sem, hjt, hw]; rfl) ?_) | (refine awp_cond (b := _) (by simp only [go_sem, evB, hjt, hw]; rfl) (fun hcond => ?_) (fun hcond => ?_))))
      exact ⟨(i + 1, cs', Q', S', M', C'), ⟨by simp only; omega, hI'⟩, by simp only; omega, (by refine Imp.back 62 41 (by simp only [go_sem, renL, Loc.ren, Cont.ren, SV.ren, V1.ren, At.ren,  ]) (by simp only [go_sem, renL, Loc.ren, Cont.ren, SV.ren, V1.ren, At.ren,  ]) (by simp only [go_sem, renL, Loc.ren, Cont.ren, SV.ren, V1.ren, At.ren,  ]) (by decide) (by decide) ?_; refine Imp.of_in ?_; simp only [go_sem, renL, Loc.ren, Cont.ren, SV.ren, V1.ren, At.ren,  ])⟩
  · ((repeat' (first | refine thenL_n ?_ | refine thenL_r ?_ | refine thenL_x ?_ | refine blockL_n ?_ | refine blockL_r ?_ | refine blockL_x ?_ | refine blockL_y rfl ?_ | refine awp_seq ?_ | refine awp_block ?_ | refine awp_ret ?_ | refine awp_exit ?_ | refine awp_skip ?_ | exact absurd hcond (by decide) | (first | (refine awp_txt ?_; refine runs_to [] (by simp only [go_sem, hlt]; rfl) ?_) | (refine awp_draw mixed ?_; refine runs_to [] (by simp only [go_sem, hlt]; rfl) ?_)) | refine runD_nil ⟨by kernel_rfl, ?_⟩ | refine runD_nil ?_ | (refine runD_call (c11) cb11 (by rfl) (by simp only [go_sem, hlt]; rfl) (by ((repeat' (first | exact All2.nil | refine All2.cons ?_ ?_ | exact SubV.one (SubT.same _) | exact SubV.one (SubT.nil _) | refine SubV.agg ?_ | exact SubT.same _ | exact SubT.nil _)); first | done | fail)) ?_; refine runs_to [] (by simp only [go_sem, hlt]; rfl) ?_) | (refine awp_cond (b := _) (by simp only [go_sem, evB, hlt]; rfl) (fun hcond => ?_) (fun hcond => ?_)))); all_goals (refine leaves_ok (by first | exact Or.inl rfl | exact Or.inr rfl) (by simp only [go_sem, resAll, resL, packL, vecsOf, freezeAll, freezeL, hlt]; rfl) ?_; (first | refine SubR.v ?_ | refine SubR.tup ?_); ((repeat' (first | exact All2.nil | refine All2.cons ?_ ?_ | exact SubV.one (SubT.same _) | exact SubV.one (SubT.nil _) | refine SubV.agg ?_ | exact SubT.same _ | exact SubT.nil _)); first | done | fail)))
end Go.Proofs.Ytidnlnnobegniaa
