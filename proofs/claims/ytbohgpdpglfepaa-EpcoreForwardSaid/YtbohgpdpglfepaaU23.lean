import Derived.Test.YtbohgpdpglfepaaU21
set_option maxHeartbeats 4000000
set_option maxRecDepth 10000
set_option linter.unusedVariables false
set_option linter.unusedSimpArgs false
namespace Go.Proofs.Ytbohgpdpglfepaa
open Go.AM Go.RowKit
attribute [local irreducible] AWP thenL blockL AM.Leaves LeavesO RunD
attribute [local go_sem] runs stepR actF inF frzA frzW lastW act act1 actPick actNil actBin
  actUn actConv actExtract actFieldAddr actField actAlloc keysOf actBox actLoad treesOf actStore actIndex
  actLen actMx srcL actAppend actMake actBuild actBuildSlice boundL actSlice actCall actEqS isStruct
  isSlice actText actCopy litsOf kindsOK fieldsPlain eqAll eqop dstB dstN boolS litB
  litV sv binv unv lits takeC cellsR trees cellsW mxv repl parts
  fillAt fillRows V1.cs mkV ev evr AM.look put del applyL delD wrD
  undefS SV.to V1.to At.to keysL notIn freshKey PV.up PR.up entry entryV evp
  isAt actPtrNil capsL actFunc sameV sameVs pureCtx doc mkVar AM.Loc.key Cont.keys SV.keys
  V1.keys At.keys Cont.sub SV.sub V1.sub At.sub guardR argsL callR Nat.blt_eq Nat.blt Nat.ble
  Nat.beq_eq_true_eq beq_self_eq_true Array.toList List.map List.append_eq List.nil_append List.cons_append List.append_nil List.append_assoc Bool.and_eq_true decide_true decide_false
  decide_eq_true_eq Bool.not_true Bool.not_false reduceCtorEq if_true if_false ite_true ite_false reduceIte AM.Loc.slot.injEq AM.Loc.cell.injEq AM.Loc.vec.injEq
  List.getElem?_cons_zero List.getElem?_cons_succ List.getElem?_nil Option.map_some Option.map_none Option.toList List.flatMap_nil List.flatMap_cons Bool.and_true Bool.true_and Bool.and_false Bool.false_and
  Bool.true_eq_false Bool.false_eq_true Nat.reduceBEq Nat.reduceEqDiff bool_beq_tt bool_beq_ff bool_beq_tf bool_beq_ft List.length_cons List.length_nil List.drop List.take
  List.drop_zero List.take_zero List.all_cons List.all_nil Value.oneCell' Nat.zero_add Nat.reduceAdd Nat.reduceMul Nat.reduceSub Nat.reduceLT Nat.reduceLeDiff Int.reduceLT
  Int.reduceLE Int.reduceEq Int.reduceBEq Int.reduceBNe Int.reduceAdd Int.reduceSub Int.reduceMul Int.reduceNeg Int.reduceToNat Nat.succ_ne_zero List.replicate and_true
  true_and and_false false_and and_self ge_iff_le gt_iff_lt bne_self_eq_false List.zip_cons_cons List.zip_nil_left List.zip List.zipWith Int.natCast_nonneg
  Int.toNat_natCast List.getElem?_map List.length_map sT sI sB sR sP rV AllIn Int.toNat_zero Int.ofNat_zero
  Int.natCast_zero Nat.le_refl List.mapM_cons List.mapM_nil Option.bind_eq_bind Option.bind_some Option.pure_def List.set_cons_zero List.set_cons_succ List.length_set tt2 tt3
  tt4 tt5 tt9 tt12 tt21 tt22 tt23 tt24 tt25 tt36 tt37 tt43
  tt44 tt51 tt52 tt53 tt59 tt67 tt68 tt69 tt74 tt75 tt76 tt77
  tt78 tt79 tt89 tt92 tt95 tt96 tt97 tt98 tt99 tt102 tt103 tt106
  tt107 tt108 tt114 tt115 tt116 tt117 tt118 tt119 tt120 tt122 tt124 tt125
  tt126 tt127 tt130 tt131 tt132 tt133 tt134 tt135 tt137 tt138 tt139 tt147
  tt148 tt149 tt159 tt164 tt165 tt167 tt168 tt169 tt170 tt171 tt190 tt191
  tt194 tt200 tt208 tt212
attribute [local go_sem] vlit bal rInt rBool vInts pInts vvInts vPairs att vAtts vBy cm iv vvBy av lI lB inK vAsk

theorem c16 (r n : Int) (asks : List AK) (hn : asks.length ≤ 4611686018427387903) (ha : ∀ a, a ∈ asks → a.ok) : Pure Try.prog 16 [.agg [.lit (.int .i64 r), .lit (.int .i64 n)], .one (vAsk asks)] (rBool true) := by
  refine pure_of_body Try.func16 rfl (by simp [Try.f16]) ?_; rw [Try.ntmps16, Try.results16]; intro w0 G0
  (repeat' (first | refine thenL_n ?_ | refine thenL_r ?_ | refine thenL_x ?_ | refine blockL_n ?_ | refine blockL_r ?_ | refine blockL_x ?_ | refine blockL_y rfl ?_ | refine awp_seq ?_ | refine awp_block ?_ | refine awp_ret ?_ | refine awp_exit ?_ | refine awp_skip ?_ | exact absurd hcond (by decide) | (first | (refine awp_txt ?_; refine runs_to [] (by simp only [go_sem]; rfl) ?_) | (refine awp_draw mixed ?_; refine runs_to [] (by simp only [go_sem]; rfl) ?_)) | refine runD_nil ⟨by kernel_rfl, ?_⟩ | refine runD_nil ?_ | (refine awp_cond (b := _) (by simp only [go_sem, evB]; rfl) (fun hcond => ?_) (fun hcond => ?_))))
  refine awp_loop (fun p : Nat × IN => [(.slot 5, sP 5)] ++ inK 5 p.2 ++ [(.slot 12, sT (vAsk asks)), (.slot 13, sI asks.length), (.slot 14, sI p.1)]) (fun p => p.1 ≤ asks.length ∧ p.2.ok ∧ pvOK p.2) (fun p => asks.length - p.1) (0, in0 r n) ⟨Nat.zero_le _, in0_ok r n, less_irrefl 0 0⟩ (Imp.trans (Imp.coeC 5 9 1 (by simp only [go_sem])) (Imp.trans (Imp.coeC 5 11 1 (by simp only [go_sem])) (by refine Imp.of_in ?_; simp only [go_sem, in0]))) ?_
  rintro ⟨i, x⟩ ⟨hi, hx, hp⟩
  simp only at hi hx hp
  simp only [inK, List.cons_append, List.nil_append]
  by_cases hlt : (i : Int) < asks.length
  · have hil : i < asks.length := by omega
    have hxi : asks[i]? = some asks[i] := List.getElem?_eq_getElem hil
    have hmem : asks[i] ∈ asks := List.getElem_mem _
    generalize asks[i] = a at hxi hmem
    have hao := ha a hmem
    have hw := up i (by omega)
    have hok := doR_ok hx hao
    have k1 := c76 x hx a hao
    obtain ⟨f1, f2, f3, f4, f5⟩ := doR_forward hp a
    generalize doR x a = y at k1 hok f1 f2 f3 f4 f5
    obtain ⟨y, b⟩ := y
    simp only at k1 hok f1 f2 f3 f4 f5
    have kw76 := k1
    have f1' : less y.p1 y.p2 y.v1 y.v2 = false := f1
    cases h3 : x.st == 3 with
    | true =>
      obtain ⟨q1, q2, rfl⟩ := f4 h3
      have h3' : (x.st != 3) = false := by rw [bne, h3]; rfl
      have h2' : (x.st == 2) = false := by simp at h3 ⊢; omega
      have kw55 := c55 x.s x.s x.d x.d (by have := hx.d; omega)
      simp only [beq_self_eq_true, decide_true, Bool.and_self] at kw55
      simp only at f1' f2 f3
      (repeat' (first | refine thenL_n ?_ | refine thenL_r ?_ | refine thenL_x ?_ | refine blockL_n ?_ | refine blockL_r ?_ | refine blockL_x ?_ | refine blockL_y rfl ?_ | refine awp_seq ?_ | refine awp_block ?_ | refine awp_ret ?_ | refine awp_exit ?_ | refine awp_skip ?_ | exact absurd hcond (by decide) | (first | (refine awp_txt ?_; refine runs_to [] (by simp only [go_sem, hlt, hil, hxi, hw, f1', f2, f3, h3, h3', h2']; rfl) ?_) | (refine awp_draw mixed ?_; refine runs_to [] (by simp only [go_sem, hlt, hil, hxi, hw, f1', f2, f3, h3, h3', h2']; rfl) ?_)) | refine runD_nil ⟨by kernel_rfl, ?_⟩ | refine runD_nil ?_ | (refine runD_call (kw76) cb76 (by rfl) (by simp only [go_sem, hlt, hil, hxi, hw, f1', f2, f3, h3, h3', h2']; rfl) (by ((repeat' (first | exact All2.nil | refine All2.cons ?_ ?_ | exact SubV.one (SubT.same _) | exact SubV.one (SubT.nil _) | refine SubV.agg ?_ | exact SubT.same _ | exact SubT.nil _)); first | done | fail)) ?_; refine runs_to [] (by simp only [go_sem, hlt, hil, hxi, hw, f1', f2, f3, h3, h3', h2']; rfl) ?_) | (refine runD_call (c26 _ _ _ _) cb26 (by rfl) (by simp only [go_sem, hlt, hil, hxi, hw, f1', f2, f3, h3, h3', h2']; rfl) (by ((repeat' (first | exact All2.nil | refine All2.cons ?_ ?_ | exact SubV.one (SubT.same _) | exact SubV.one (SubT.nil _) | refine SubV.agg ?_ | exact SubT.same _ | exact SubT.nil _)); first | done | fail)) ?_; refine runs_to [] (by simp only [go_sem, hlt, hil, hxi, hw, f1', f2, f3, h3, h3', h2']; rfl) ?_) | (refine runD_call (c56 _ _) cb56 (by rfl) (by simp only [go_sem, hlt, hil, hxi, hw, f1', f2, f3, h3, h3', h2']; rfl) (by ((repeat' (first | exact All2.nil | refine All2.cons ?_ ?_ | exact SubV.one (SubT.same _) | exact SubV.one (SubT.nil _) | refine SubV.agg ?_ | exact SubT.same _ | exact SubT.nil _)); first | done | fail)) ?_; refine runs_to [] (by simp only [go_sem, hlt, hil, hxi, hw, f1', f2, f3, h3, h3', h2']; rfl) ?_) | (refine runD_call (kw55) cb55 (by rfl) (by simp only [go_sem, hlt, hil, hxi, hw, f1', f2, f3, h3, h3', h2']; rfl) (by ((repeat' (first | exact All2.nil | refine All2.cons ?_ ?_ | exact SubV.one (SubT.same _) | exact SubV.one (SubT.nil _) | refine SubV.agg ?_ | exact SubT.same _ | exact SubT.nil _)); first | done | fail)) ?_; refine runs_to [] (by simp only [go_sem, hlt, hil, hxi, hw, f1', f2, f3, h3, h3', h2']; rfl) ?_) | (refine runD_call (c70 _ _ _) cb70 (by rfl) (by simp only [go_sem, hlt, hil, hxi, hw, f1', f2, f3, h3, h3', h2']; rfl) (by ((repeat' (first | exact All2.nil | refine All2.cons ?_ ?_ | exact SubV.one (SubT.same _) | exact SubV.one (SubT.nil _) | refine SubV.agg ?_ | exact SubT.same _ | exact SubT.nil _)); first | done | fail)) ?_; refine runs_to [] (by simp only [go_sem, hlt, hil, hxi, hw, f1', f2, f3, h3, h3', h2']; rfl) ?_) | (refine awp_cond (b := _) (by simp only [go_sem, evB, hlt, hil, hxi, hw, f1', f2, f3, h3, h3', h2']; rfl) (fun hcond => ?_) (fun hcond => ?_))))
      refine ⟨(i + 1, { x with p1 := q1, p2 := q2 }), ⟨by simp only; omega, hok, f1⟩, by simp only; omega, (by refine Imp.of_in ?_; simp only [go_sem])⟩
    | false =>
      cases h2 : x.st == 2 with
      | true =>
        cases h1 : y.st == 1 with
        | true =>
          have f5' := f5 h2 h1
          (repeat' (first | refine thenL_n ?_ | refine thenL_r ?_ | refine thenL_x ?_ | refine blockL_n ?_ | refine blockL_r ?_ | refine blockL_x ?_ | refine blockL_y rfl ?_ | refine awp_seq ?_ | refine awp_block ?_ | refine awp_ret ?_ | refine awp_exit ?_ | refine awp_skip ?_ | exact absurd hcond (by decide) | (first | (refine awp_txt ?_; refine runs_to [] (by simp only [go_sem, hlt, hil, hxi, hw, f1', f2, f3, h3, h2, h1, f5']; rfl) ?_) | (refine awp_draw mixed ?_; refine runs_to [] (by simp only [go_sem, hlt, hil, hxi, hw, f1', f2, f3, h3, h2, h1, f5']; rfl) ?_)) | refine runD_nil ⟨by kernel_rfl, ?_⟩ | refine runD_nil ?_ | (refine runD_call (kw76) cb76 (by rfl) (by simp only [go_sem, hlt, hil, hxi, hw, f1', f2, f3, h3, h2, h1, f5']; rfl) (by ((repeat' (first | exact All2.nil | refine All2.cons ?_ ?_ | exact SubV.one (SubT.same _) | exact SubV.one (SubT.nil _) | refine SubV.agg ?_ | exact SubT.same _ | exact SubT.nil _)); first | done | fail)) ?_; refine runs_to [] (by simp only [go_sem, hlt, hil, hxi, hw, f1', f2, f3, h3, h2, h1, f5']; rfl) ?_) | (refine runD_call (c26 _ _ _ _) cb26 (by rfl) (by simp only [go_sem, hlt, hil, hxi, hw, f1', f2, f3, h3, h2, h1, f5']; rfl) (by ((repeat' (first | exact All2.nil | refine All2.cons ?_ ?_ | exact SubV.one (SubT.same _) | exact SubV.one (SubT.nil _) | refine SubV.agg ?_ | exact SubT.same _ | exact SubT.nil _)); first | done | fail)) ?_; refine runs_to [] (by simp only [go_sem, hlt, hil, hxi, hw, f1', f2, f3, h3, h2, h1, f5']; rfl) ?_) | (refine awp_cond (b := _) (by simp only [go_sem, evB, hlt, hil, hxi, hw, f1', f2, f3, h3, h2, h1, f5']; rfl) (fun hcond => ?_) (fun hcond => ?_))))
          refine ⟨(i + 1, y), ⟨by simp only; omega, hok, f1⟩, by simp only; omega, (by refine Imp.of_in ?_; simp only [go_sem])⟩
        | false =>
          (repeat' (first | refine thenL_n ?_ | refine thenL_r ?_ | refine thenL_x ?_ | refine blockL_n ?_ | refine blockL_r ?_ | refine blockL_x ?_ | refine blockL_y rfl ?_ | refine awp_seq ?_ | refine awp_block ?_ | refine awp_ret ?_ | refine awp_exit ?_ | refine awp_skip ?_ | exact absurd hcond (by decide) | (first | (refine awp_txt ?_; refine runs_to [] (by simp only [go_sem, hlt, hil, hxi, hw, f1', f2, f3, h3, h2, h1]; rfl) ?_) | (refine awp_draw mixed ?_; refine runs_to [] (by simp only [go_sem, hlt, hil, hxi, hw, f1', f2, f3, h3, h2, h1]; rfl) ?_)) | refine runD_nil ⟨by kernel_rfl, ?_⟩ | refine runD_nil ?_ | (refine runD_call (kw76) cb76 (by rfl) (by simp only [go_sem, hlt, hil, hxi, hw, f1', f2, f3, h3, h2, h1]; rfl) (by ((repeat' (first | exact All2.nil | refine All2.cons ?_ ?_ | exact SubV.one (SubT.same _) | exact SubV.one (SubT.nil _) | refine SubV.agg ?_ | exact SubT.same _ | exact SubT.nil _)); first | done | fail)) ?_; refine runs_to [] (by simp only [go_sem, hlt, hil, hxi, hw, f1', f2, f3, h3, h2, h1]; rfl) ?_) | (refine runD_call (c26 _ _ _ _) cb26 (by rfl) (by simp only [go_sem, hlt, hil, hxi, hw, f1', f2, f3, h3, h2, h1]; rfl) (by ((repeat' (first | exact All2.nil | refine All2.cons ?_ ?_ | exact SubV.one (SubT.same _) | exact SubV.one (SubT.nil _) | refine SubV.agg ?_ | exact SubT.same _ | exact SubT.nil _)); first | done | fail)) ?_; refine runs_to [] (by simp only [go_sem, hlt, hil, hxi, hw, f1', f2, f3, h3, h2, h1]; rfl) ?_) | (refine awp_cond (b := _) (by simp only [go_sem, evB, hlt, hil, hxi, hw, f1', f2, f3, h3, h2, h1]; rfl) (fun hcond => ?_) (fun hcond => ?_))))
          refine ⟨(i + 1, y), ⟨by simp only; omega, hok, f1⟩, by simp only; omega, (by refine Imp.of_in ?_; simp only [go_sem])⟩
      | false =>
        (repeat' (first | refine thenL_n ?_ | refine thenL_r ?_ | refine thenL_x ?_ | refine blockL_n ?_ | refine blockL_r ?_ | refine blockL_x ?_ | refine blockL_y rfl ?_ | refine awp_seq ?_ | refine awp_block ?_ | refine awp_ret ?_ | refine awp_exit ?_ | refine awp_skip ?_ | exact absurd hcond (by decide) | (first | (refine awp_txt ?_; refine runs_to [] (by simp only [go_sem, hlt, hil, hxi, hw, f1', f2, f3, h3, h2]; rfl) ?_) | (refine awp_draw mixed ?_; refine runs_to [] (by simp only [go_sem, hlt, hil, hxi, hw, f1', f2, f3, h3, h2]; rfl) ?_)) | refine runD_nil ⟨by kernel_rfl, ?_⟩ | refine runD_nil ?_ | (refine runD_call (kw76) cb76 (by rfl) (by simp only [go_sem, hlt, hil, hxi, hw, f1', f2, f3, h3, h2]; rfl) (by ((repeat' (first | exact All2.nil | refine All2.cons ?_ ?_ | exact SubV.one (SubT.same _) | exact SubV.one (SubT.nil _) | refine SubV.agg ?_ | exact SubT.same _ | exact SubT.nil _)); first | done | fail)) ?_; refine runs_to [] (by simp only [go_sem, hlt, hil, hxi, hw, f1', f2, f3, h3, h2]; rfl) ?_) | (refine runD_call (c26 _ _ _ _) cb26 (by rfl) (by simp only [go_sem, hlt, hil, hxi, hw, f1', f2, f3, h3, h2]; rfl) (by ((repeat' (first | exact All2.nil | refine All2.cons ?_ ?_ | exact SubV.one (SubT.same _) | exact SubV.one (SubT.nil _) | refine SubV.agg ?_ | exact SubT.same _ | exact SubT.nil _)); first | done | fail)) ?_; refine runs_to [] (by simp only [go_sem, hlt, hil, hxi, hw, f1', f2, f3, h3, h2]; rfl) ?_) | (refine awp_cond (b := _) (by simp only [go_sem, evB, hlt, hil, hxi, hw, f1', f2, f3, h3, h2]; rfl) (fun hcond => ?_) (fun hcond => ?_))))
        refine ⟨(i + 1, y), ⟨by simp only; omega, hok, f1⟩, by simp only; omega, (by refine Imp.of_in ?_; simp only [go_sem])⟩
  · ((repeat' (first | refine thenL_n ?_ | refine thenL_r ?_ | refine thenL_x ?_ | refine blockL_n ?_ | refine blockL_r ?_ | refine blockL_x ?_ | refine blockL_y rfl ?_ | refine awp_seq ?_ | refine awp_block ?_ | refine awp_ret ?_ | refine awp_exit ?_ | refine awp_skip ?_ | exact absurd hcond (by decide) | (first | (refine awp_txt ?_; refine runs_to [] (by simp only [go_sem, hlt]; rfl) ?_) | (refine awp_draw mixed ?_; refine runs_to [] (by simp only [go_sem, hlt]; rfl) ?_)) | refine runD_nil ⟨by kernel_rfl, ?_⟩ | refine runD_nil ?_ | (refine runD_call (c57) cb57 (by rfl) (by simp only [go_sem, hlt]; rfl) (by ((repeat' (first | exact All2.nil | refine All2.cons ?_ ?_ | exact SubV.one (SubT.same _) | exact SubV.one (SubT.nil _) | refine SubV.agg ?_ | exact SubT.same _ | exact SubT.nil _)); first | done | fail)) ?_; refine runs_to [] (by simp only [go_sem, hlt]; rfl) ?_) | (refine awp_cond (b := _) (by simp only [go_sem, evB, hlt]; rfl) (fun hcond => ?_) (fun hcond => ?_)))); all_goals (refine leaves_ok (by first | exact Or.inl rfl | exact Or.inr rfl) (by simp only [go_sem, resAll, resL, packL, vecsOf, freezeAll, freezeL, hlt]; rfl) ?_; (first | refine SubR.v ?_ | refine SubR.tup ?_); ((repeat' (first | exact All2.nil | refine All2.cons ?_ ?_ | exact SubV.one (SubT.same _) | exact SubV.one (SubT.nil _) | refine SubV.agg ?_ | exact SubT.same _ | exact SubT.nil _)); first | done | fail)))
end Go.Proofs.Ytbohgpdpglfepaa
