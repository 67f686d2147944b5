import Derived.Test.YtidnlnnobegniaaPE
set_option maxHeartbeats 4000000
set_option maxRecDepth 10000
set_option linter.unusedVariables false
set_option linter.unusedSimpArgs false
namespace Go.Proofs.Ytidnlnnobegniaa
open Go.AM Go.RowKit
attribute [local irreducible] AWP thenL blockL AM.Leaves LeavesO RunD
attribute [local go_sem] act0 actN actX actFieldM actIndexM actLoadM actStoreM actAllocM actBoxM actBuildM actSliceM actRange
  actEntry actDelB bigT bigOp offHole sizeM keyC actMakeMap actLookup actMapEntry actEntryStore actMapUpdate
  actDelete actClear actLen2 actIndex2 actLoad2 actOne actApp2 actCall2 actMark isZI isZS isOwn
  QHole.at holeB runs stepR actF inF frzA frzW lastW act act1 actPick
  actNil actBin actUn actConv actExtract actFieldAddr actField actAlloc keysOf actBox actLoad treesOf
  actStore actIndex actLen actMx srcL actAppend actMake actBuild actBuildSlice boundL actSlice actCall
  actEqS isStruct isSlice actText actCopy litsOf kindsOK fieldsPlain eqAll eqop dstB dstN
  boolS litB litV sv binv unv lits takeC cellsR trees cellsW mxv
  repl parts fillAt fillRows V1.cs mkV ev evr AM.look put del applyL
  delD wrD undefS SV.to V1.to At.to keysL notIn freshKey PV.up PR.up entry
  entryV evp isAt actPtrNil capsL actFunc sameV sameVs pureCtx doc mkVar AM.Loc.key
  Cont.keys SV.keys V1.keys At.keys Cont.sub SV.sub V1.sub At.sub guardR argsL callR eq_self
  Nat.blt_eq Nat.blt Nat.ble Nat.beq_eq_true_eq beq_self_eq_true Array.toList List.map List.append_eq List.nil_append List.cons_append List.append_nil List.append_assoc
  Bool.and_eq_true decide_true decide_false decide_eq_true_eq Bool.not_true Bool.not_false reduceCtorEq if_true if_false ite_true ite_false reduceIte
  AM.Loc.slot.injEq AM.Loc.cell.injEq AM.Loc.vec.injEq List.getElem?_cons_zero List.getElem?_cons_succ List.getElem?_nil Option.map_some Option.map_none Option.toList List.flatMap_nil List.flatMap_cons Bool.and_true
  Bool.true_and Bool.and_false Bool.false_and Bool.true_eq_false Bool.false_eq_true Nat.reduceBEq Nat.reduceEqDiff bool_beq_tt bool_beq_ff bool_beq_tf bool_beq_ft List.length_cons
  List.length_nil List.drop List.take List.drop_zero List.take_zero List.all_cons List.all_nil Value.oneCell' Nat.zero_add Nat.reduceAdd Nat.reduceMul Nat.reduceSub
  Nat.reduceLT Nat.reduceLeDiff Int.reduceLT Int.reduceLE Int.reduceEq Int.reduceBEq Int.reduceBNe Int.reduceAdd Int.reduceSub Int.reduceMul Int.reduceNeg Int.reduceToNat
  Nat.succ_ne_zero List.replicate and_true true_and and_false false_and and_self ge_iff_le gt_iff_lt bne_self_eq_false List.zip_cons_cons List.zip_nil_left
  List.zip List.zipWith Int.natCast_nonneg Int.toNat_natCast List.getElem?_map List.length_map sT sI sB sR sP rV
  AllIn Int.toNat_zero Int.ofNat_zero Int.natCast_zero Nat.le_refl List.mapM_cons List.mapM_nil Option.bind_eq_bind Option.bind_some Option.bind_none Option.pure_def List.set_cons_zero
  List.set_cons_succ List.length_set cellsF_length cellsF_lit putF_one tt2 tt3 tt4 tt5 tt9 tt12 tt21
  tt22 tt23 tt24 tt30 tt39 tt40 tt41 tt42 tt43 tt44 tt45 tt49
  tt59 tt60 tt61 tt62 tt63 tt66 tt67 tt70 tt94 tt98 mo60 mo61
  mg22 mg3 zz22 zz3 bi50 bi51 bi52 bi54 im60 ho54
attribute [local go_sem] vlit rInt rBool vInts pInts vBy vvBy lI lB nK lN rB vOps opL msgL rK netF_0 netF_1 netF_2

def z54 : List Value := [.int .i64 0, .int .i64 0, .slice none 0 0] ++ List.replicate 1024 (.bool false) ++ List.replicate 32 (.int .i64 0)
theorem zero54 (j : Nat) : zeroF Try.prog 54 j = z54.getD j (.bool false) := by
  have h1 : (tinfo Try.prog 54).map (·.zero) = some z54 := by kernel_rfl
  unfold zeroF
  cases ht : tinfo Try.prog 54 with
  | none => rw [ht] at h1; simp at h1
  | some i =>
    rw [ht] at h1
    simp only [Option.map_some, Option.some.injEq] at h1
    show i.zero.getD j (.bool false) = _
    rw [h1]
theorem box_eq (n room : Int) (k : Nat) : litsF (cellsF (put2 (zeroF Try.prog 54) (.int .i64 n) (.int .i64 room)) 0 1059) = netF n room (fun _ _ => false) (List.replicate k 0) := by
  have hrep : ∀ i, (List.replicate k (0 : Int)).getD i 0 = 0 := by
    intro i
    rw [List.getD_eq_getElem?_getD, List.getElem?_replicate]
    split <;> rfl
  funext j
  by_cases hj : j < 1059
  · rw [litsF_cellsF _ _ _ _ hj, Nat.zero_add]
    unfold put2 netF
    by_cases h0 : j = 0
    · rw [if_pos h0, if_pos h0]
    by_cases h1 : j = 1
    · rw [if_neg h0, if_pos h1, if_neg h0, if_pos h1]
    rw [if_neg h0, if_neg h1, if_neg h0, if_neg h1, zero54, List.getD_eq_getElem?_getD]
    unfold z54
    by_cases h2 : j = 2
    · subst h2; rfl
    rw [if_neg h2]
    by_cases h3 : j < 1027
    · rw [if_pos h3, List.getElem?_append_left (by simp; omega), List.getElem?_append_right (by simp; omega), List.getElem?_replicate, if_pos (by simp; omega)]; rfl
    · rw [if_neg h3, if_pos hj, List.getElem?_append_right (by simp; omega), List.getElem?_replicate, if_pos (by simp; omega), hrep]; rfl
  · unfold litsF netF
    rw [List.getD_eq_getElem?_getD, List.getElem?_eq_none (by rw [cellsF_length]; omega), if_neg (by omega), if_neg (by omega), if_neg (by omega), if_neg (by omega), if_neg hj]
    rfl

def chkD (n room : Int) : Int := if n < 1 ∨ 32 < n then 60 else if room < 1 ∨ 4096 < room then 61 else 0
theorem c19 (n room : Int) : Pure Try.prog 19 [vlit (.int .i64 n), vlit (.int .i64 room)] (rInt (chkD n room)) := by
  by_cases h1 : n < 1
  · have e : chkD n room = 60 := by simp [chkD, h1]
    rw [e]
    refine pure_of_body Try.func19 rfl (by simp [Try.f19]) ?_; rw [Try.ntmps19, Try.results19]; intro w0 G0
    ((repeat' (first | refine thenL_n ?_ | refine thenL_r ?_ | refine thenL_x ?_ | refine blockL_n ?_ | refine blockL_r ?_ | refine blockL_x ?_ | refine blockL_y rfl ?_ | refine awp_seq ?_ | refine awp_block ?_ | refine awp_ret ?_ | refine awp_exit ?_ | refine awp_skip ?_ | exact absurd hcond (by decide) | (first | (refine awp_txt ?_; refine runs_to [] (by simp only [go_sem, h1]; rfl) ?_) | (refine awp_draw mixed ?_; refine runs_to [] (by simp only [go_sem, h1]; rfl) ?_)) | refine runD_nil ⟨by kernel_rfl, ?_⟩ | refine runD_nil ?_ | (refine awp_cond (b := _) (by simp only [go_sem, evB, h1]; rfl) (fun hcond => ?_) (fun hcond => ?_)))); all_goals (refine leaves_ok (by first | exact Or.inl rfl | exact Or.inr rfl) (by simp only [go_sem, resAll, resL, packL, vecsOf, freezeAll, freezeL, h1]; rfl) ?_; (first | refine SubR.v ?_ | refine SubR.tup ?_); ((repeat' (first | exact All2.nil | refine All2.cons ?_ ?_ | exact SubV.one (SubT.same _) | exact SubV.one (SubT.nil _) | refine SubV.agg ?_ | exact SubT.same _ | exact SubT.nil _)); first | done | fail)))
  by_cases h2 : 32 < n
  · have e : chkD n room = 60 := by simp [chkD, h2]
    rw [e]
    refine pure_of_body Try.func19 rfl (by simp [Try.f19]) ?_; rw [Try.ntmps19, Try.results19]; intro w0 G0
    ((repeat' (first | refine thenL_n ?_ | refine thenL_r ?_ | refine thenL_x ?_ | refine blockL_n ?_ | refine blockL_r ?_ | refine blockL_x ?_ | refine blockL_y rfl ?_ | refine awp_seq ?_ | refine awp_block ?_ | refine awp_ret ?_ | refine awp_exit ?_ | refine awp_skip ?_ | exact absurd hcond (by decide) | (first | (refine awp_txt ?_; refine runs_to [] (by simp only [go_sem, h1, h2]; rfl) ?_) | (refine awp_draw mixed ?_; refine runs_to [] (by simp only [go_sem, h1, h2]; rfl) ?_)) | refine runD_nil ⟨by kernel_rfl, ?_⟩ | refine runD_nil ?_ | (refine awp_cond (b := _) (by simp only [go_sem, evB, h1, h2]; rfl) (fun hcond => ?_) (fun hcond => ?_)))); all_goals (refine leaves_ok (by first | exact Or.inl rfl | exact Or.inr rfl) (by simp only [go_sem, resAll, resL, packL, vecsOf, freezeAll, freezeL, h1, h2]; rfl) ?_; (first | refine SubR.v ?_ | refine SubR.tup ?_); ((repeat' (first | exact All2.nil | refine All2.cons ?_ ?_ | exact SubV.one (SubT.same _) | exact SubV.one (SubT.nil _) | refine SubV.agg ?_ | exact SubT.same _ | exact SubT.nil _)); first | done | fail)))
  by_cases h3 : room < 1
  · have e : chkD n room = 61 := by simp [chkD, h1, h2, h3]
    rw [e]
    refine pure_of_body Try.func19 rfl (by simp [Try.f19]) ?_; rw [Try.ntmps19, Try.results19]; intro w0 G0
    ((repeat' (first | refine thenL_n ?_ | refine thenL_r ?_ | refine thenL_x ?_ | refine blockL_n ?_ | refine blockL_r ?_ | refine blockL_x ?_ | refine blockL_y rfl ?_ | refine awp_seq ?_ | refine awp_block ?_ | refine awp_ret ?_ | refine awp_exit ?_ | refine awp_skip ?_ | exact absurd hcond (by decide) | (first | (refine awp_txt ?_; refine runs_to [] (by simp only [go_sem, h1, h2, h3]; rfl) ?_) | (refine awp_draw mixed ?_; refine runs_to [] (by simp only [go_sem, h1, h2, h3]; rfl) ?_)) | refine runD_nil ⟨by kernel_rfl, ?_⟩ | refine runD_nil ?_ | (refine awp_cond (b := _) (by simp only [go_sem, evB, h1, h2, h3]; rfl) (fun hcond => ?_) (fun hcond => ?_)))); all_goals (refine leaves_ok (by first | exact Or.inl rfl | exact Or.inr rfl) (by simp only [go_sem, resAll, resL, packL, vecsOf, freezeAll, freezeL, h1, h2, h3]; rfl) ?_; (first | refine SubR.v ?_ | refine SubR.tup ?_); ((repeat' (first | exact All2.nil | refine All2.cons ?_ ?_ | exact SubV.one (SubT.same _) | exact SubV.one (SubT.nil _) | refine SubV.agg ?_ | exact SubT.same _ | exact SubT.nil _)); first | done | fail)))
  by_cases h4 : 4096 < room
  · have e : chkD n room = 61 := by simp [chkD, h1, h2, h3, h4]
    rw [e]
    refine pure_of_body Try.func19 rfl (by simp [Try.f19]) ?_; rw [Try.ntmps19, Try.results19]; intro w0 G0
    ((repeat' (first | refine thenL_n ?_ | refine thenL_r ?_ | refine thenL_x ?_ | refine blockL_n ?_ | refine blockL_r ?_ | refine blockL_x ?_ | refine blockL_y rfl ?_ | refine awp_seq ?_ | refine awp_block ?_ | refine awp_ret ?_ | refine awp_exit ?_ | refine awp_skip ?_ | exact absurd hcond (by decide) | (first | (refine awp_txt ?_; refine runs_to [] (by simp only [go_sem, h1, h2, h3, h4]; rfl) ?_) | (refine awp_draw mixed ?_; refine runs_to [] (by simp only [go_sem, h1, h2, h3, h4]; rfl) ?_)) | refine runD_nil ⟨by kernel_rfl, ?_⟩ | refine runD_nil ?_ | (refine awp_cond (b := _) (by simp only [go_sem, evB, h1, h2, h3, h4]; rfl) (fun hcond => ?_) (fun hcond => ?_)))); all_goals (refine leaves_ok (by first | exact Or.inl rfl | exact Or.inr rfl) (by simp only [go_sem, resAll, resL, packL, vecsOf, freezeAll, freezeL, h1, h2, h3, h4]; rfl) ?_; (first | refine SubR.v ?_ | refine SubR.tup ?_); ((repeat' (first | exact All2.nil | refine All2.cons ?_ ?_ | exact SubV.one (SubT.same _) | exact SubV.one (SubT.nil _) | refine SubV.agg ?_ | exact SubT.same _ | exact SubT.nil _)); first | done | fail)))
  have e : chkD n room = 0 := by simp [chkD, h1, h2, h3, h4]
  rw [e]
  refine pure_of_body Try.func19 rfl (by simp [Try.f19]) ?_; rw [Try.ntmps19, Try.results19]; intro w0 G0
  ((repeat' (first | refine thenL_n ?_ | refine thenL_r ?_ | refine thenL_x ?_ | refine blockL_n ?_ | refine blockL_r ?_ | refine blockL_x ?_ | refine blockL_y rfl ?_ | refine awp_seq ?_ | refine awp_block ?_ | refine awp_ret ?_ | refine awp_exit ?_ | refine awp_skip ?_ | exact absurd hcond (by decide) | (first | (refine awp_txt ?_; refine runs_to [] (by simp only [go_sem, h1, h2, h3, h4]; rfl) ?_) | (refine awp_draw mixed ?_; refine runs_to [] (by simp only [go_sem, h1, h2, h3, h4]; rfl) ?_)) | refine runD_nil ⟨by kernel_rfl, ?_⟩ | refine runD_nil ?_ | (refine awp_cond (b := _) (by simp only [go_sem, evB, h1, h2, h3, h4]; rfl) (fun hcond => ?_) (fun hcond => ?_)))); all_goals (refine leaves_ok (by first | exact Or.inl rfl | exact Or.inr rfl) (by simp only [go_sem, resAll, resL, packL, vecsOf, freezeAll, freezeL, h1, h2, h3, h4]; rfl) ?_; (first | refine SubR.v ?_ | refine SubR.tup ?_); ((repeat' (first | exact All2.nil | refine All2.cons ?_ ?_ | exact SubV.one (SubT.same _) | exact SubV.one (SubT.nil _) | refine SubV.agg ?_ | exact SubT.same _ | exact SubT.nil _)); first | done | fail)))

/-- No queue has more than room; no clock goes back. -/
theorem c7 (n room : Int) (ops : List OP) (hn : ops.length ≤ 4611686018427387903) (ho : ∀ o, o ∈ ops → o.ok) : Pure Try.prog 7 [vlit (.int .i64 n), vlit (.int .i64 room), .one (vOps ops)] (rBool true) := by
  have k19 := c19 n room
  by_cases hb : n < 1 ∨ 32 < n
  · have k8 := c8a n room hb
    have e : chkD n room = 60 := by unfold chkD; rw [if_pos hb]
    rw [e] at k19
    refine pure_of_body Try.func7 rfl (by simp [Try.f7]) ?_; rw [Try.ntmps7, Try.results7]; intro w0 G0
    ((repeat' (first | refine thenL_n ?_ | refine thenL_r ?_ | refine thenL_x ?_ | refine blockL_n ?_ | refine blockL_r ?_ | refine blockL_x ?_ | refine blockL_y rfl ?_ | refine awp_seq ?_ | refine awp_block ?_ | refine awp_ret ?_ | refine awp_exit ?_ | refine awp_skip ?_ | exact absurd hcond (by decide) | (first | (refine awp_txt ?_; refine runs_to [] (by simp only [go_sem]; rfl) ?_) | (refine awp_draw mixed ?_; refine runs_to [] (by simp only [go_sem]; rfl) ?_)) | refine runD_nil ⟨by kernel_rfl, ?_⟩ | refine runD_nil ?_ | (refine runD_call (k8) cb8 (by rfl) (by simp only [go_sem]; rfl) (by ((repeat' (first | exact All2.nil | refine All2.cons ?_ ?_ | exact SubV.one (SubT.same _) | exact SubV.one (SubT.nil _) | refine SubV.agg ?_ | exact SubT.same _ | exact SubT.nil _)); first | done | fail)) ?_; refine runs_to [] (by simp only [go_sem]; rfl) ?_) | (refine runD_call (k19) cb19 (by rfl) (by simp only [go_sem]; rfl) (by ((repeat' (first | exact All2.nil | refine All2.cons ?_ ?_ | exact SubV.one (SubT.same _) | exact SubV.one (SubT.nil _) | refine SubV.agg ?_ | exact SubT.same _ | exact SubT.nil _)); first | done | fail)) ?_; refine runs_to [] (by simp only [go_sem]; rfl) ?_) | (refine runD_call (c11) cb11 (by rfl) (by simp only [go_sem]; rfl) (by ((repeat' (first | exact All2.nil | refine All2.cons ?_ ?_ | exact SubV.one (SubT.same _) | exact SubV.one (SubT.nil _) | refine SubV.agg ?_ | exact SubT.same _ | exact SubT.nil _)); first | done | fail)) ?_; refine runs_to [] (by simp only [go_sem]; rfl) ?_) | (refine awp_cond (b := _) (by simp only [go_sem, evB]; rfl) (fun hcond => ?_) (fun hcond => ?_)))); all_goals (refine leaves_ok (by first | exact Or.inl rfl | exact Or.inr rfl) (by simp only [go_sem, resAll, resL, packL, vecsOf, freezeAll, freezeL]; rfl) ?_; (first | refine SubR.v ?_ | refine SubR.tup ?_); ((repeat' (first | exact All2.nil | refine All2.cons ?_ ?_ | exact SubV.one (SubT.same _) | exact SubV.one (SubT.nil _) | refine SubV.agg ?_ | exact SubT.same _ | exact SubT.nil _)); first | done | fail)))
  by_cases hb2 : room < 1 ∨ 4096 < room
  · have k8 := c8b n room hb hb2
    have e : chkD n room = 61 := by unfold chkD; rw [if_neg hb, if_pos hb2]
    rw [e] at k19
    refine pure_of_body Try.func7 rfl (by simp [Try.f7]) ?_; rw [Try.ntmps7, Try.results7]; intro w0 G0
    ((repeat' (first | refine thenL_n ?_ | refine thenL_r ?_ | refine thenL_x ?_ | refine blockL_n ?_ | refine blockL_r ?_ | refine blockL_x ?_ | refine blockL_y rfl ?_ | refine awp_seq ?_ | refine awp_block ?_ | refine awp_ret ?_ | refine awp_exit ?_ | refine awp_skip ?_ | exact absurd hcond (by decide) | (first | (refine awp_txt ?_; refine runs_to [] (by simp only [go_sem]; rfl) ?_) | (refine awp_draw mixed ?_; refine runs_to [] (by simp only [go_sem]; rfl) ?_)) | refine runD_nil ⟨by kernel_rfl, ?_⟩ | refine runD_nil ?_ | (refine runD_call (k8) cb8 (by rfl) (by simp only [go_sem]; rfl) (by ((repeat' (first | exact All2.nil | refine All2.cons ?_ ?_ | exact SubV.one (SubT.same _) | exact SubV.one (SubT.nil _) | refine SubV.agg ?_ | exact SubT.same _ | exact SubT.nil _)); first | done | fail)) ?_; refine runs_to [] (by simp only [go_sem]; rfl) ?_) | (refine runD_call (k19) cb19 (by rfl) (by simp only [go_sem]; rfl) (by ((repeat' (first | exact All2.nil | refine All2.cons ?_ ?_ | exact SubV.one (SubT.same _) | exact SubV.one (SubT.nil _) | refine SubV.agg ?_ | exact SubT.same _ | exact SubT.nil _)); first | done | fail)) ?_; refine runs_to [] (by simp only [go_sem]; rfl) ?_) | (refine runD_call (c11) cb11 (by rfl) (by simp only [go_sem]; rfl) (by ((repeat' (first | exact All2.nil | refine All2.cons ?_ ?_ | exact SubV.one (SubT.same _) | exact SubV.one (SubT.nil _) | refine SubV.agg ?_ | exact SubT.same _ | exact SubT.nil _)); first | done | fail)) ?_; refine runs_to [] (by simp only [go_sem]; rfl) ?_) | (refine awp_cond (b := _) (by simp only [go_sem, evB]; rfl) (fun hcond => ?_) (fun hcond => ?_)))); all_goals (refine leaves_ok (by first | exact Or.inl rfl | exact Or.inr rfl) (by simp only [go_sem, resAll, resL, packL, vecsOf, freezeAll, freezeL]; rfl) ?_; (first | refine SubR.v ?_ | refine SubR.tup ?_); ((repeat' (first | exact All2.nil | refine All2.cons ?_ ?_ | exact SubV.one (SubT.same _) | exact SubV.one (SubT.nil _) | refine SubV.agg ?_ | exact SubT.same _ | exact SubT.nil _)); first | done | fail)))
  clear k19
  obtain ⟨k, rfl⟩ := Int.eq_ofNat_of_zero_le (show 0 ≤ n by omega)
  have hk1 : 1 ≤ k := by omega
  have hk : k ≤ 32 := by omega
  have hr0 : 0 ≤ room := by omega
  have hr2 : room ≤ 4096 := by omega
  obtain ⟨Q0, hQ0⟩ : ∃ Q0 : QF, Q0 = fun _ _ => [] := ⟨_, rfl⟩
  obtain ⟨S0, hS0⟩ : ∃ S0 : SF, S0 = fun _ _ => 0 := ⟨_, rfl⟩
  obtain ⟨cs0, hcs⟩ : ∃ cs : List Int, cs = List.replicate k 0 := ⟨_, rfl⟩
  have kw8 : Does Try.prog 8 [.one (lI k), .one (lI room)] [] (.tup [.one (.ptr 26 0), .one (lI 0)]) (nK 26 21 23 24 cs0 room Q0 .none [] S0) := by
    have := s8 k room hb hb2
    rwa [Int.toNat_natCast, ← hQ0, ← hS0, ← hcs] at this
  have hJ0 : J k room cs0 Q0 := by
    refine ⟨by rw [hcs]; simp, fun c hc => ?_, fun a b => by rw [hQ0]; simp; omega, fun a b m hm => by rw [hQ0] at hm; simp at hm⟩
    rw [hcs] at hc
    have := List.eq_of_mem_replicate hc
    omega
  have h7 : (0 : Int) ≤ k := by omega
  have h8 : (k : Int) ≤ 140737488355328 := by omega
  have h9 : (k : Int) * ((8 : Nat) : Int) ≤ 281474976710656 := by omega
  have hrep : List.replicate k [T.lit (.int .i64 0)] = List.map (fun n => [T.lit (.int .i64 n)]) cs0 := by rw [hcs]; simp
  have hbox := box_eq k room k
  clear hQ0 hS0 hcs
  refine pure_of_body Try.func7 rfl (by simp [Try.f7]) ?_; rw [Try.ntmps7, Try.results7]; intro w0 G0
  (repeat' (first | refine thenL_n ?_ | refine thenL_r ?_ | refine thenL_x ?_ | refine blockL_n ?_ | refine blockL_r ?_ | refine blockL_x ?_ | refine blockL_y rfl ?_ | refine awp_seq ?_ | refine awp_block ?_ | refine awp_ret ?_ | refine awp_exit ?_ | refine awp_skip ?_ | exact absurd hcond (by decide) | (first | (refine awp_txt ?_; refine runs_to [] (by simp only [go_sem, h7, h8, h9, hrep]; rfl) ?_) | (refine awp_draw mixed ?_; refine runs_to [] (by simp only [go_sem, h7, h8, h9, hrep]; rfl) ?_)) | refine runD_nil ⟨by kernel_rfl, ?_⟩ | refine runD_nil ?_ | (refine runD_does [] [26, 21, 23, 24] (kw8) cb8 (by rfl) (.inl (by simp only [go_sem, h7, h8, h9, hrep]; rfl)) (by simp only [go_sem, ren, dels, adds, rn, At.rn, V1.rn, SV.rn, Cont.rn, Loc.rn, news, vals2, keys2, namesB, locKeys, injOn, noSlots, List.all, List.any, h7, h8, h9, hrep]; rfl) (by first | kernel_rfl | rfl) (by simp only [go_sem, ren, dels, adds, rn, At.rn, V1.rn, SV.rn, Cont.rn, Loc.rn, news, vals2, keys2, namesB, locKeys, injOn, noSlots, List.all, List.any, h7, h8, h9, hrep]; ((repeat' (first | exact All2.nil | refine All2.cons ?_ ?_ | exact SubW.one (SubA.same _) | exact SubW.one (SubA.nil _) | exact SubW.one (SubA.ptr _) | refine SubW.agg ?_ | exact SubA.same _ | exact SubA.nil _ | exact SubA.ptr _)); first | done | fail)) (by simp only [go_sem, ren, dels, adds, rn, At.rn, V1.rn, SV.rn, Cont.rn, Loc.rn, news, vals2, keys2, namesB, locKeys, injOn, noSlots, List.all, List.any, h7, h8, h9, hrep]; (repeat' (first | exact trivial | refine And.intro rfl ?_)); first | done | fail) (by simp only [go_sem, ren, dels, adds, rn, At.rn, V1.rn, SV.rn, Cont.rn, Loc.rn, news, vals2, keys2, namesB, locKeys, injOn, noSlots, List.all, List.any, h7, h8, h9, hrep]; (repeat' (first | exact trivial | refine And.intro rfl ?_)); first | done | fail) ?_; simp only [go_sem, ren, dels, adds, rn, At.rn, V1.rn, SV.rn, Cont.rn, Loc.rn, news, vals2, keys2, namesB, locKeys, injOn, noSlots, List.all, List.any, h7, h8, h9, hrep]; refine runs_to [] (by simp only [go_sem, h7, h8, h9, hrep]; rfl) ?_) | (refine awp_cond (b := _) (by simp only [go_sem, evB, h7, h8, h9, hrep]; rfl) (fun hcond => ?_) (fun hcond => ?_))))
  refine awp_loop (fun p : Nat × List Int × QF × SF × List Int => (.slot 0, sI k) :: (.slot 1, sI room) :: (.slot 7, .s (.v (.one (.ptr 20 0)))) :: (.slot 9, sR 37) :: (.vec 37, rV 3 p.2.2.2.2) :: (.slot 38, sT (vOps ops)) :: (.slot 39, sI ops.length) :: (.slot 40, sI p.1) :: nK 20 3020 6020 9020 p.2.1 room p.2.2.1 .none [] p.2.2.2.1) (fun p => p.1 ≤ ops.length ∧ J k room p.2.1 p.2.2.1 ∧ p.2.2.2.2.length = k ∧ ∀ j : Nat, p.2.2.2.2.getD j 0 ≤ p.2.1.getD j 0) (fun p => ops.length - p.1) (0, cs0, Q0, S0, cs0) ⟨Nat.zero_le _, hJ0, hJ0.len, fun _ => Int.le_refl _⟩ (by refine Imp.of_in ?_; simp only [go_sem, Int.natCast_zero]) ?_
  rintro ⟨i, cs, Q, S, last⟩ ⟨hi, hJ, hll, hle⟩
  simp only at hi hJ hll hle
  by_cases hlt : (i : Int) < ops.length
  · have hil : i < ops.length := by omega
    have hxi : ops[i]? = some ops[i] := List.getElem?_eq_getElem hil
    have hoo := ho ops[i] (List.getElem_mem _)
    generalize ops[i] = o at hxi hoo
    have hw := up i (by omega)
    obtain ⟨r, cs', Q', S', M', C', clk', kw20, hJ', hmono⟩ := stepB (S := S) hJ hk1 hk hr0 hr2 hoo
    unfold Steps argsS at kw20
    (repeat' (first | refine thenL_n ?_ | refine thenL_r ?_ | refine thenL_x ?_ | refine blockL_n ?_ | refine blockL_r ?_ | refine blockL_x ?_ | refine blockL_y rfl ?_ | refine awp_seq ?_ | refine awp_block ?_ | refine awp_ret ?_ | refine awp_exit ?_ | refine awp_skip ?_ | exact absurd hcond (by decide) | (first | (refine awp_txt ?_; refine runs_to [] (by simp only [go_sem, hlt, hxi, hw, hbox]; rfl) ?_) | (refine awp_draw mixed ?_; refine runs_to [] (by simp only [go_sem, hlt, hxi, hw, hbox]; rfl) ?_)) | refine runD_nil ⟨by kernel_rfl, ?_⟩ | refine runD_nil ?_ | (refine runD_does [(100000, 20), (100001, 3020), (100002, 6020), (100003, 9020), (100020, 48), (100021, 2048)] [40] (kw20) cb20 (by rfl) (.inl (by simp only [go_sem, hlt, hxi, hw, hbox]; rfl)) (by simp only [go_sem, ren, dels, adds, rn, At.rn, V1.rn, SV.rn, Cont.rn, Loc.rn, news, vals2, keys2, namesB, locKeys, injOn, noSlots, List.all, List.any, hlt, hxi, hw, hbox]; rfl) (by first | kernel_rfl | rfl) (by simp only [go_sem, ren, dels, adds, rn, At.rn, V1.rn, SV.rn, Cont.rn, Loc.rn, news, vals2, keys2, namesB, locKeys, injOn, noSlots, List.all, List.any, hlt, hxi, hw, hbox]; ((repeat' (first | exact All2.nil | refine All2.cons ?_ ?_ | exact SubW.one (SubA.same _) | exact SubW.one (SubA.nil _) | exact SubW.one (SubA.ptr _) | refine SubW.agg ?_ | exact SubA.same _ | exact SubA.nil _ | exact SubA.ptr _)); first | done | fail)) (by simp only [go_sem, ren, dels, adds, rn, At.rn, V1.rn, SV.rn, Cont.rn, Loc.rn, news, vals2, keys2, namesB, locKeys, injOn, noSlots, List.all, List.any, hlt, hxi, hw, hbox]; (repeat' (first | exact trivial | refine And.intro rfl ?_)); first | done | fail) (by simp only [go_sem, ren, dels, adds, rn, At.rn, V1.rn, SV.rn, Cont.rn, Loc.rn, news, vals2, keys2, namesB, locKeys, injOn, noSlots, List.all, List.any, hlt, hxi, hw, hbox]; (repeat' (first | exact trivial | refine And.intro rfl ?_)); first | done | fail) ?_; simp only [go_sem, ren, dels, adds, rn, At.rn, V1.rn, SV.rn, Cont.rn, Loc.rn, news, vals2, keys2, namesB, locKeys, injOn, noSlots, List.all, List.any, hlt, hxi, hw, hbox]; refine runs_to [] (by simp only [go_sem, hlt, hxi, hw, hbox]; rfl) ?_) | (refine awp_cond (b := _) (by simp only [go_sem, evB, hlt, hxi, hw, hbox]; rfl) (fun hcond => ?_) (fun hcond => ?_))))
    refine awp_loop (fun p : Nat × List Int => (.slot 0, sI k) :: (.slot 1, sI room) :: (.slot 7, .s (.v (.one (.ptr 20 0)))) :: (.slot 9, sR 37) :: (.vec 37, rV 3 p.2) :: (.slot 11, sP 11) :: (.cell 11 1, .c (lI o.a)) :: (.slot 51, sI k) :: (.slot 52, sI p.1) :: (.slot 38, sT (vOps ops)) :: (.slot 39, sI ops.length) :: (.slot 40, sI i) :: nK 20 3020 6020 9020 cs' room Q' .none [] S') (fun p => p.1 ≤ k ∧ p.2.length = k ∧ ∀ j : Nat, p.2.getD j 0 ≤ cs'.getD j 0) (fun p => k - p.1) (0, last) ⟨Nat.zero_le _, hll, fun j => Int.le_trans (hle j) (hmono j)⟩ (by refine Imp.of_in ?_; simp only [go_sem, Int.natCast_zero]) ?_
    rintro ⟨j, la⟩ ⟨hj, hla, hle'⟩
    simp only at hj hla hle'
    by_cases hjt : (j : Int) < (k : Int)
    · have hjl : j < la.length := by omega
      have hjl2 : (j : Int) < (la.length : Int) := by omega
      have hjc : j < cs'.length := by have := hJ'.len; omega
      have hc : cs'[j]? = some cs'[j] := List.getElem?_eq_getElem hjc
      have hl : la[j]? = some la[j] := List.getElem?_eq_getElem hjl
      have hcl := hle' j
      rw [List.getD_eq_getElem?_getD, List.getD_eq_getElem?_getD, hc, hl] at hcl
      simp only [Option.getD_some] at hcl
      have hcm := hJ'.ok cs'[j] (List.getElem_mem _)
      have hgc : cs'.getD j 0 = cs'[j] := by rw [List.getD_eq_getElem?_getD, hc]; rfl
      generalize cs'[j] = c at hc hcl hcm hgc
      generalize la[j] = l at hl hcl
      have hwj := up j (by omega)
      have kw22 := c22b cs' j c hc
      have f1 : ¬ c < l := by omega
      have f2 : ¬ 1099511627776 < c := by omega
      have hset := mapSet la j c
      have hle2 : ∀ i : Nat, (la.set j c).getD i 0 ≤ cs'.getD i 0 := by
        intro i
        by_cases hij : j = i
        · subst hij
          rw [hgc, List.getD_eq_getElem?_getD, List.getElem?_set_self hjl]
          exact Int.le_refl _
        · have := hle' i
          rw [List.getD_eq_getElem?_getD] at this ⊢
          rw [List.getElem?_set_ne hij]; exact this
      have kw14 := s14 cs' room Q' S' o.a j
      have hroom := hJ'.room o.a j
      unfold cntR at kw14
      by_cases hbad : bad2 cs'.length o.a j = true
      · rw [if_pos hbad] at kw14
        (repeat' (first | refine thenL_n ?_ | refine thenL_r ?_ | refine thenL_x ?_ | refine blockL_n ?_ | refine blockL_r ?_ | refine blockL_x ?_ | refine blockL_y rfl ?_ | refine awp_seq ?_ | refine awp_block ?_ | refine awp_ret ?_ | refine awp_exit ?_ | refine awp_skip ?_ | exact absurd hcond (by decide) | (first | (refine awp_txt ?_; refine runs_to [] (by simp only [go_sem, hjt, hjl, hjl2, hl, hwj, f1, f2]; rfl) ?_) | (refine awp_draw mixed ?_; refine runs_to [] (by simp only [go_sem, hjt, hjl, hjl2, hl, hwj, f1, f2]; rfl) ?_)) | refine runD_nil ⟨by kernel_rfl, ?_⟩ | refine runD_nil ?_ | (refine runD_lend (kw22) cb22 (by rfl) (.inl (by simp only [go_sem, hjt, hjl, hjl2, hl, hwj, f1, f2]; rfl)) (by simp only [go_sem, lendL, lendV, lendA, lendAs, hjt, hjl, hjl2, hl, hwj, f1, f2]; rfl) (by ((repeat' (first | exact All2.nil | refine All2.cons ?_ ?_ | exact SubV.one (SubT.same _) | exact SubV.one (SubT.nil _) | refine SubV.agg ?_ | exact SubT.same _ | exact SubT.nil _)); first | done | fail)) (by rfl) ?_; refine runs_to [] (by simp only [go_sem, hjt, hjl, hjl2, hl, hwj, f1, f2]; rfl) ?_) | (refine runD_looks [(100000, 20), (100001, 3020), (100002, 6020), (100003, 9020)] (kw14) cb14 (by rfl) (.inl (by simp only [go_sem, hjt, hjl, hjl2, hl, hwj, f1, f2]; rfl)) (by first | kernel_rfl | rfl) (by simp only [go_sem, ren, dels, adds, rn, At.rn, V1.rn, SV.rn, Cont.rn, Loc.rn, news, vals2, keys2, namesB, locKeys, injOn, noSlots, List.all, List.any, hjt, hjl, hjl2, hl, hwj, f1, f2]; ((repeat' (first | exact All2.nil | refine All2.cons ?_ ?_ | exact SubW.one (SubA.same _) | exact SubW.one (SubA.nil _) | exact SubW.one (SubA.ptr _) | refine SubW.agg ?_ | exact SubA.same _ | exact SubA.nil _ | exact SubA.ptr _)); first | done | fail)) (by simp only [go_sem, ren, dels, adds, rn, At.rn, V1.rn, SV.rn, Cont.rn, Loc.rn, news, vals2, keys2, namesB, locKeys, injOn, noSlots, List.all, List.any, hjt, hjl, hjl2, hl, hwj, f1, f2]; (repeat' (first | exact trivial | refine And.intro rfl ?_)); first | done | fail) (by simp only [go_sem, ren, dels, adds, rn, At.rn, V1.rn, SV.rn, Cont.rn, Loc.rn, news, vals2, keys2, namesB, locKeys, injOn, noSlots, List.all, List.any, hjt, hjl, hjl2, hl, hwj, f1, f2]; (repeat' (first | exact trivial | refine And.intro rfl ?_)); first | done | fail) ?_; simp only [go_sem, ren, dels, adds, rn, At.rn, V1.rn, SV.rn, Cont.rn, Loc.rn, news, vals2, keys2, namesB, locKeys, injOn, noSlots, List.all, List.any, hjt, hjl, hjl2, hl, hwj, f1, f2]; refine runs_to [] (by simp only [go_sem, hjt, hjl, hjl2, hl, hwj, f1, f2]; rfl) ?_) | (refine awp_cond (b := _) (by simp only [go_sem, evB, hjt, hjl, hjl2, hl, hwj, f1, f2]; rfl) (fun hcond => ?_) (fun hcond => ?_))))
        exact ⟨(j + 1, la.set j c), ⟨by simp only; omega, by simp only [List.length_set]; exact hla, hle2⟩, by simp only; omega, (by refine Imp.of_in ?_; simp only [go_sem, hset])⟩
      · rw [if_neg hbad] at kw14
        have g1 : ¬ ((Q' o.a j).length : Int) < 0 := by omega
        have g2 : ¬ room < ((Q' o.a j).length : Int) := by omega
        (repeat' (first | refine thenL_n ?_ | refine thenL_r ?_ | refine thenL_x ?_ | refine blockL_n ?_ | refine blockL_r ?_ | refine blockL_x ?_ | refine blockL_y rfl ?_ | refine awp_seq ?_ | refine awp_block ?_ | refine awp_ret ?_ | refine awp_exit ?_ | refine awp_skip ?_ | exact absurd hcond (by decide) | (first | (refine awp_txt ?_; refine runs_to [] (by simp only [go_sem, hjt, hjl, hjl2, hl, hwj, f1, f2, g1, g2]; rfl) ?_) | (refine awp_draw mixed ?_; refine runs_to [] (by simp only [go_sem, hjt, hjl, hjl2, hl, hwj, f1, f2, g1, g2]; rfl) ?_)) | refine runD_nil ⟨by kernel_rfl, ?_⟩ | refine runD_nil ?_ | (refine runD_lend (kw22) cb22 (by rfl) (.inl (by simp only [go_sem, hjt, hjl, hjl2, hl, hwj, f1, f2, g1, g2]; rfl)) (by simp only [go_sem, lendL, lendV, lendA, lendAs, hjt, hjl, hjl2, hl, hwj, f1, f2, g1, g2]; rfl) (by ((repeat' (first | exact All2.nil | refine All2.cons ?_ ?_ | exact SubV.one (SubT.same _) | exact SubV.one (SubT.nil _) | refine SubV.agg ?_ | exact SubT.same _ | exact SubT.nil _)); first | done | fail)) (by rfl) ?_; refine runs_to [] (by simp only [go_sem, hjt, hjl, hjl2, hl, hwj, f1, f2, g1, g2]; rfl) ?_) | (refine runD_looks [(100000, 20), (100001, 3020), (100002, 6020), (100003, 9020)] (kw14) cb14 (by rfl) (.inl (by simp only [go_sem, hjt, hjl, hjl2, hl, hwj, f1, f2, g1, g2]; rfl)) (by first | kernel_rfl | rfl) (by simp only [go_sem, ren, dels, adds, rn, At.rn, V1.rn, SV.rn, Cont.rn, Loc.rn, news, vals2, keys2, namesB, locKeys, injOn, noSlots, List.all, List.any, hjt, hjl, hjl2, hl, hwj, f1, f2, g1, g2]; ((repeat' (first | exact All2.nil | refine All2.cons ?_ ?_ | exact SubW.one (SubA.same _) | exact SubW.one (SubA.nil _) | exact SubW.one (SubA.ptr _) | refine SubW.agg ?_ | exact SubA.same _ | exact SubA.nil _ | exact SubA.ptr _)); first | done | fail)) (by simp only [go_sem, ren, dels, adds, rn, At.rn, V1.rn, SV.rn, Cont.rn, Loc.rn, news, vals2, keys2, namesB, locKeys, injOn, noSlots, List.all, List.any, hjt, hjl, hjl2, hl, hwj, f1, f2, g1, g2]; (repeat' (first | exact trivial | refine And.intro rfl ?_)); first | done | fail) (by simp only [go_sem, ren, dels, adds, rn, At.rn, V1.rn, SV.rn, Cont.rn, Loc.rn, news, vals2, keys2, namesB, locKeys, injOn, noSlots, List.all, List.any, hjt, hjl, hjl2, hl, hwj, f1, f2, g1, g2]; (repeat' (first | exact trivial | refine And.intro rfl ?_)); first | done | fail) ?_; simp only [go_sem, ren, dels, adds, rn, At.rn, V1.rn, SV.rn, Cont.rn, Loc.rn, news, vals2, keys2, namesB, locKeys, injOn, noSlots, List.all, List.any, hjt, hjl, hjl2, hl, hwj, f1, f2, g1, g2]; refine runs_to [] (by simp only [go_sem, hjt, hjl, hjl2, hl, hwj, f1, f2, g1, g2]; rfl) ?_) | (refine awp_cond (b := _) (by simp only [go_sem, evB, hjt, hjl, hjl2, hl, hwj, f1, f2, g1, g2]; rfl) (fun hcond => ?_) (fun hcond => ?_))))
        exact ⟨(j + 1, la.set j c), ⟨by simp only; omega, by simp only [List.length_set]; exact hla, hle2⟩, by simp only; omega, (by refine Imp.of_in ?_; simp only [go_sem, hset])⟩
    · (repeat' (first | refine thenL_n ?_ | refine thenL_r ?_ | refine thenL_x ?_ | refine blockL_n ?_ | refine blockL_r ?_ | refine blockL_x ?_ | refine blockL_y rfl ?_ | refine awp_seq ?_ | refine awp_block ?_ | refine awp_ret ?_ | refine awp_exit ?_ | refine awp_skip ?_ | exact absurd hcond (by decide) | (first | (refine awp_txt ?_; refine runs_to [] (by simp only [go_sem, hjt, hw]; rfl) ?_) | (refine awp_draw mixed ?_; refine runs_to [] (by simp only [go_sem, hjt, hw]; rfl) ?_)) | refine runD_nil ⟨by kernel_rfl, ?_⟩ | refine runD_nil ?_ | (refine awp_cond (b := _) (by simp only [go_sem, evB, hjt, hw]; rfl) (fun hcond => ?_) (fun hcond => ?_))))
      exact ⟨(i + 1, cs', Q', S', la), ⟨by simp only; omega, hJ', hla, hle'⟩, by simp only; omega, (by refine Imp.of_in ?_; simp only [go_sem])⟩
  · ((repeat' (first | refine thenL_n ?_ | refine thenL_r ?_ | refine thenL_x ?_ | refine blockL_n ?_ | refine blockL_r ?_ | refine blockL_x ?_ | refine blockL_y rfl ?_ | refine awp_seq ?_ | refine awp_block ?_ | refine awp_ret ?_ | refine awp_exit ?_ | refine awp_skip ?_ | exact absurd hcond (by decide) | (first | (refine awp_txt ?_; refine runs_to [] (by simp only [go_sem, hlt]; rfl) ?_) | (refine awp_draw mixed ?_; refine runs_to [] (by simp only [go_sem, hlt]; rfl) ?_)) | refine runD_nil ⟨by kernel_rfl, ?_⟩ | refine runD_nil ?_ | (refine runD_call (c11) cb11 (by rfl) (by simp only [go_sem, hlt]; rfl) (by ((repeat' (first | exact All2.nil | refine All2.cons ?_ ?_ | exact SubV.one (SubT.same _) | exact SubV.one (SubT.nil _) | refine SubV.agg ?_ | exact SubT.same _ | exact SubT.nil _)); first | done | fail)) ?_; refine runs_to [] (by simp only [go_sem, hlt]; rfl) ?_) | (refine awp_cond (b := _) (by simp only [go_sem, evB, hlt]; rfl) (fun hcond => ?_) (fun hcond => ?_)))); all_goals (refine leaves_ok (by first | exact Or.inl rfl | exact Or.inr rfl) (by simp only [go_sem, resAll, resL, packL, vecsOf, freezeAll, freezeL, hlt]; rfl) ?_; (first | refine SubR.v ?_ | refine SubR.tup ?_); ((repeat' (first | exact All2.nil | refine All2.cons ?_ ?_ | exact SubV.one (SubT.same _) | exact SubV.one (SubT.nil _) | refine SubV.agg ?_ | exact SubT.same _ | exact SubT.nil _)); first | done | fail)))
end Go.Proofs.Ytidnlnnobegniaa
