import Derived.Test.YtbohgpdpglfepaaT14
set_option maxHeartbeats 4000000
set_option maxRecDepth 10000
set_option linter.unusedVariables false
set_option linter.unusedSimpArgs false
namespace Go.Proofs.Ytbohgpdpglfepaa
open Go.AM Go.RowKit
attribute [local irreducible] AWP thenL blockL AM.Leaves LeavesO RunD
attribute [local go_sem] runs stepR actF inF frzA frzW lastW act act1 actPick actNil actBin
  actUn actConv actExtract actFieldAddr actField actAlloc keysOf actBox actLoad treesOf actStore actIndex
  actLen actMx srcL actAppend actMake actBuild actBuildSlice boundL actSlice actCall actEqS isStruct
  isSlice actText actCopy litsOf kindsOK fieldsPlain eqAll eqop dstB dstN boolS litB
  litV sv binv unv lits takeC cellsR trees cellsW mxv repl parts
  fillAt fillRows V1.cs mkV ev evr AM.look put del applyL delD wrD
  undefS SV.to V1.to At.to keysL notIn freshKey PV.up PR.up entry entryV evp
  isAt actPtrNil capsL actFunc sameV sameVs pureCtx doc mkVar AM.Loc.key Cont.keys SV.keys
  V1.keys At.keys Cont.sub SV.sub V1.sub At.sub guardR argsL callR Nat.blt_eq Nat.blt Nat.ble
  Nat.beq_eq_true_eq beq_self_eq_true Array.toList List.map List.append_eq List.nil_append List.cons_append List.append_nil List.append_assoc Bool.and_eq_true decide_true decide_false
  decide_eq_true_eq Bool.not_true Bool.not_false reduceCtorEq if_true if_false ite_true ite_false reduceIte AM.Loc.slot.injEq AM.Loc.cell.injEq AM.Loc.vec.injEq
  List.getElem?_cons_zero List.getElem?_cons_succ List.getElem?_nil Option.map_some Option.map_none Option.toList List.flatMap_nil List.flatMap_cons Bool.and_true Bool.true_and Bool.and_false Bool.false_and
  Bool.true_eq_false Bool.false_eq_true Nat.reduceBEq Nat.reduceEqDiff bool_beq_tt bool_beq_ff bool_beq_tf bool_beq_ft List.length_cons List.length_nil List.drop List.take
  List.drop_zero List.take_zero List.all_cons List.all_nil Value.oneCell' Nat.zero_add Nat.reduceAdd Nat.reduceMul Nat.reduceSub Nat.reduceLT Nat.reduceLeDiff Int.reduceLT
  Int.reduceLE Int.reduceEq Int.reduceBEq Int.reduceBNe Int.reduceAdd Int.reduceSub Int.reduceMul Int.reduceNeg Int.reduceToNat Nat.succ_ne_zero List.replicate and_true
  true_and and_false false_and and_self ge_iff_le gt_iff_lt bne_self_eq_false List.zip_cons_cons List.zip_nil_left List.zip List.zipWith Int.natCast_nonneg
  Int.toNat_natCast List.getElem?_map List.length_map sT sI sB sR sP rV AllIn Int.toNat_zero Int.ofNat_zero
  Int.natCast_zero Nat.le_refl List.mapM_cons List.mapM_nil Option.bind_eq_bind Option.bind_some Option.pure_def List.set_cons_zero List.set_cons_succ List.length_set tt2 tt3
  tt4 tt5 tt9 tt12 tt21 tt22 tt23 tt24 tt25 tt36 tt37 tt43
  tt44 tt51 tt52 tt53 tt59 tt67 tt68 tt69 tt74 tt75 tt76 tt77
  tt78 tt79 tt89 tt92 tt95 tt96 tt97 tt98 tt99 tt102 tt103 tt106
  tt107 tt108 tt114 tt115 tt116 tt117 tt118 tt119 tt120 tt122 tt124 tt125
  tt126 tt127 tt130 tt131 tt132 tt133 tt134 tt135 tt137 tt138 tt139 tt147
  tt148 tt149 tt159 tt164 tt165 tt167 tt168 tt169 tt170 tt171 tt190 tt191
  tt194 tt200 tt208 tt212
attribute [local go_sem] vlit bal rInt rBool vInts pInts vvInts vPairs

def att (s : Int) (d : List Int) : PV := .agg [.lit (.int .i64 s), vInts d]
attribute [local go_sem] att
def maj (n : Int) : Int := if 1 ≤ n ∧ n ≤ 7 then n / 2 + 1 else 0
def fast (n : Int) : Int := if 1 ≤ n ∧ n ≤ 7 then mx2 (n - 1) (maj n) else 0
theorem maj_in {n : Int} (h : 1 ≤ n ∧ n ≤ 7) : maj n = n / 2 + 1 := if_pos h
theorem maj_out {n : Int} (h : ¬ (1 ≤ n ∧ n ≤ 7)) : maj n = 0 := if_neg h

theorem c51 (n : Int) : Pure Try.prog 51 [vlit (.int .i64 n)] (rInt (maj n)) := by
  by_cases h1 : n < 1
  · rw [maj_out (by omega)]
    refine pure_of_body Try.func51 rfl (by simp [Try.f51]) ?_; rw [Try.ntmps51, Try.results51]; intro w0 G0
    ((repeat' (first | refine thenL_n ?_ | refine thenL_r ?_ | refine thenL_x ?_ | refine blockL_n ?_ | refine blockL_r ?_ | refine blockL_x ?_ | refine blockL_y rfl ?_ | refine awp_seq ?_ | refine awp_block ?_ | refine awp_ret ?_ | refine awp_exit ?_ | refine awp_skip ?_ | exact absurd hcond (by decide) | (refine awp_txt ?_; refine runs_to [] (by simp only [go_sem, h1]; rfl) ?_) | (refine awp_draw mixed ?_; refine runs_to [] (by simp only [go_sem, h1]; rfl) ?_) | refine runD_nil ⟨by kernel_rfl, ?_⟩ | refine runD_nil ?_ | (refine awp_cond (b := _) (by simp only [go_sem, evB, h1]; rfl) (fun hcond => ?_) (fun hcond => ?_)))); all_goals (refine leaves_ok (by first | exact Or.inl rfl | exact Or.inr rfl) (by simp only [go_sem, resAll, resL, packL, vecsOf, freezeAll, freezeL, h1]; rfl) ?_; (first | refine SubR.v ?_ | refine SubR.tup ?_); ((repeat' (first | exact All2.nil | refine All2.cons ?_ ?_ | exact SubV.one (SubT.same _) | exact SubV.one (SubT.nil _) | refine SubV.agg ?_ | exact SubT.same _ | exact SubT.nil _)); first | done | fail)))
  by_cases h2 : 7 < n
  · rw [maj_out (by omega)]
    refine pure_of_body Try.func51 rfl (by simp [Try.f51]) ?_; rw [Try.ntmps51, Try.results51]; intro w0 G0
    ((repeat' (first | refine thenL_n ?_ | refine thenL_r ?_ | refine thenL_x ?_ | refine blockL_n ?_ | refine blockL_r ?_ | refine blockL_x ?_ | refine blockL_y rfl ?_ | refine awp_seq ?_ | refine awp_block ?_ | refine awp_ret ?_ | refine awp_exit ?_ | refine awp_skip ?_ | exact absurd hcond (by decide) | (refine awp_txt ?_; refine runs_to [] (by simp only [go_sem, h1, h2]; rfl) ?_) | (refine awp_draw mixed ?_; refine runs_to [] (by simp only [go_sem, h1, h2]; rfl) ?_) | refine runD_nil ⟨by kernel_rfl, ?_⟩ | refine runD_nil ?_ | (refine awp_cond (b := _) (by simp only [go_sem, evB, h1, h2]; rfl) (fun hcond => ?_) (fun hcond => ?_)))); all_goals (refine leaves_ok (by first | exact Or.inl rfl | exact Or.inr rfl) (by simp only [go_sem, resAll, resL, packL, vecsOf, freezeAll, freezeL, h1, h2]; rfl) ?_; (first | refine SubR.v ?_ | refine SubR.tup ?_); ((repeat' (first | exact All2.nil | refine All2.cons ?_ ?_ | exact SubV.one (SubT.same _) | exact SubV.one (SubT.nil _) | refine SubV.agg ?_ | exact SubT.same _ | exact SubT.nil _)); first | done | fail)))
  rw [maj_in (by omega)]
  have hq : IntKind.i64.wrap (n.tdiv 2) = n / 2 := by
    rw [Int.tdiv_eq_ediv_of_nonneg (by omega)]
    exact IntWalk.i64_in _ ⟨by omega, by omega⟩
  have hw : IntKind.i64.wrap (n / 2 + 1) = n / 2 + 1 := IntWalk.i64_in _ ⟨by omega, by omega⟩
  refine pure_of_body Try.func51 rfl (by simp [Try.f51]) ?_; rw [Try.ntmps51, Try.results51]; intro w0 G0
  ((repeat' (first | refine thenL_n ?_ | refine thenL_r ?_ | refine thenL_x ?_ | refine blockL_n ?_ | refine blockL_r ?_ | refine blockL_x ?_ | refine blockL_y rfl ?_ | refine awp_seq ?_ | refine awp_block ?_ | refine awp_ret ?_ | refine awp_exit ?_ | refine awp_skip ?_ | exact absurd hcond (by decide) | (refine awp_txt ?_; refine runs_to [] (by simp only [go_sem, h1, h2, hq, hw]; rfl) ?_) | (refine awp_draw mixed ?_; refine runs_to [] (by simp only [go_sem, h1, h2, hq, hw]; rfl) ?_) | refine runD_nil ⟨by kernel_rfl, ?_⟩ | refine runD_nil ?_ | (refine awp_cond (b := _) (by simp only [go_sem, evB, h1, h2, hq, hw]; rfl) (fun hcond => ?_) (fun hcond => ?_)))); all_goals (refine leaves_ok (by first | exact Or.inl rfl | exact Or.inr rfl) (by simp only [go_sem, resAll, resL, packL, vecsOf, freezeAll, freezeL, h1, h2, hq, hw]; rfl) ?_; (first | refine SubR.v ?_ | refine SubR.tup ?_); ((repeat' (first | exact All2.nil | refine All2.cons ?_ ?_ | exact SubV.one (SubT.same _) | exact SubV.one (SubT.nil _) | refine SubV.agg ?_ | exact SubT.same _ | exact SubT.nil _)); first | done | fail)))

theorem c52 (n : Int) : Pure Try.prog 52 [vlit (.int .i64 n)] (rInt (maj n)) := by
  by_cases h1 : n < 1
  · rw [maj_out (by omega)]
    refine pure_of_body Try.func52 rfl (by simp [Try.f52]) ?_; rw [Try.ntmps52, Try.results52]; intro w0 G0
    ((repeat' (first | refine thenL_n ?_ | refine thenL_r ?_ | refine thenL_x ?_ | refine blockL_n ?_ | refine blockL_r ?_ | refine blockL_x ?_ | refine blockL_y rfl ?_ | refine awp_seq ?_ | refine awp_block ?_ | refine awp_ret ?_ | refine awp_exit ?_ | refine awp_skip ?_ | exact absurd hcond (by decide) | (refine awp_txt ?_; refine runs_to [] (by simp only [go_sem, h1]; rfl) ?_) | (refine awp_draw mixed ?_; refine runs_to [] (by simp only [go_sem, h1]; rfl) ?_) | refine runD_nil ⟨by kernel_rfl, ?_⟩ | refine runD_nil ?_ | (refine awp_cond (b := _) (by simp only [go_sem, evB, h1]; rfl) (fun hcond => ?_) (fun hcond => ?_)))); all_goals (refine leaves_ok (by first | exact Or.inl rfl | exact Or.inr rfl) (by simp only [go_sem, resAll, resL, packL, vecsOf, freezeAll, freezeL, h1]; rfl) ?_; (first | refine SubR.v ?_ | refine SubR.tup ?_); ((repeat' (first | exact All2.nil | refine All2.cons ?_ ?_ | exact SubV.one (SubT.same _) | exact SubV.one (SubT.nil _) | refine SubV.agg ?_ | exact SubT.same _ | exact SubT.nil _)); first | done | fail)))
  by_cases h2 : 7 < n
  · rw [maj_out (by omega)]
    refine pure_of_body Try.func52 rfl (by simp [Try.f52]) ?_; rw [Try.ntmps52, Try.results52]; intro w0 G0
    ((repeat' (first | refine thenL_n ?_ | refine thenL_r ?_ | refine thenL_x ?_ | refine blockL_n ?_ | refine blockL_r ?_ | refine blockL_x ?_ | refine blockL_y rfl ?_ | refine awp_seq ?_ | refine awp_block ?_ | refine awp_ret ?_ | refine awp_exit ?_ | refine awp_skip ?_ | exact absurd hcond (by decide) | (refine awp_txt ?_; refine runs_to [] (by simp only [go_sem, h1, h2]; rfl) ?_) | (refine awp_draw mixed ?_; refine runs_to [] (by simp only [go_sem, h1, h2]; rfl) ?_) | refine runD_nil ⟨by kernel_rfl, ?_⟩ | refine runD_nil ?_ | (refine awp_cond (b := _) (by simp only [go_sem, evB, h1, h2]; rfl) (fun hcond => ?_) (fun hcond => ?_)))); all_goals (refine leaves_ok (by first | exact Or.inl rfl | exact Or.inr rfl) (by simp only [go_sem, resAll, resL, packL, vecsOf, freezeAll, freezeL, h1, h2]; rfl) ?_; (first | refine SubR.v ?_ | refine SubR.tup ?_); ((repeat' (first | exact All2.nil | refine All2.cons ?_ ?_ | exact SubV.one (SubT.same _) | exact SubV.one (SubT.nil _) | refine SubV.agg ?_ | exact SubT.same _ | exact SubT.nil _)); first | done | fail)))
  refine pure_of_body Try.func52 rfl (by simp [Try.f52]) ?_; rw [Try.ntmps52, Try.results52]; intro w0 G0
  (repeat' (first | refine thenL_n ?_ | refine thenL_r ?_ | refine thenL_x ?_ | refine blockL_n ?_ | refine blockL_r ?_ | refine blockL_x ?_ | refine blockL_y rfl ?_ | refine awp_seq ?_ | refine awp_block ?_ | refine awp_ret ?_ | refine awp_exit ?_ | refine awp_skip ?_ | exact absurd hcond (by decide) | (refine awp_txt ?_; refine runs_to [] (by simp only [go_sem, h1, h2]; rfl) ?_) | (refine awp_draw mixed ?_; refine runs_to [] (by simp only [go_sem, h1, h2]; rfl) ?_) | refine runD_nil ⟨by kernel_rfl, ?_⟩ | refine runD_nil ?_ | (refine awp_cond (b := _) (by simp only [go_sem, evB, h1, h2]; rfl) (fun hcond => ?_) (fun hcond => ?_))))
  refine awp_loop (fun k : Nat => [(.slot 0, sI n), (.slot 3, sI k)]) (fun k => (k : Int) ≤ n / 2 + 1) (fun k => 20 - k) 0 (by omega) (by refine Imp.of_in ?_; simp only [go_sem]) ?_
  intro k hk
  have hm : IntKind.i64.wrap (2 * (k : Int)) = 2 * (k : Int) := IntWalk.i64_in _ ⟨by omega, by omega⟩
  by_cases hlt : 2 * (k : Int) ≤ n
  · have hw := up k (by omega)
    (repeat' (first | refine thenL_n ?_ | refine thenL_r ?_ | refine thenL_x ?_ | refine blockL_n ?_ | refine blockL_r ?_ | refine blockL_x ?_ | refine blockL_y rfl ?_ | refine awp_seq ?_ | refine awp_block ?_ | refine awp_ret ?_ | refine awp_exit ?_ | refine awp_skip ?_ | exact absurd hcond (by decide) | (refine awp_txt ?_; refine runs_to [] (by simp only [go_sem, hm, hlt, hw]; rfl) ?_) | (refine awp_draw mixed ?_; refine runs_to [] (by simp only [go_sem, hm, hlt, hw]; rfl) ?_) | refine runD_nil ⟨by kernel_rfl, ?_⟩ | refine runD_nil ?_ | (refine awp_cond (b := _) (by simp only [go_sem, evB, hm, hlt, hw]; rfl) (fun hcond => ?_) (fun hcond => ?_))))
    refine ⟨k + 1, by omega, by omega, (by refine Imp.of_in ?_; simp only [go_sem])⟩
  · have hf : maj n = (k : Int) := by rw [maj_in (by omega)]; omega
    rw [hf]
    ((repeat' (first | refine thenL_n ?_ | refine thenL_r ?_ | refine thenL_x ?_ | refine blockL_n ?_ | refine blockL_r ?_ | refine blockL_x ?_ | refine blockL_y rfl ?_ | refine awp_seq ?_ | refine awp_block ?_ | refine awp_ret ?_ | refine awp_exit ?_ | refine awp_skip ?_ | exact absurd hcond (by decide) | (refine awp_txt ?_; refine runs_to [] (by simp only [go_sem, hm, hlt]; rfl) ?_) | (refine awp_draw mixed ?_; refine runs_to [] (by simp only [go_sem, hm, hlt]; rfl) ?_) | refine runD_nil ⟨by kernel_rfl, ?_⟩ | refine runD_nil ?_ | (refine awp_cond (b := _) (by simp only [go_sem, evB, hm, hlt]; rfl) (fun hcond => ?_) (fun hcond => ?_)))); all_goals (refine leaves_ok (by first | exact Or.inl rfl | exact Or.inr rfl) (by simp only [go_sem, resAll, resL, packL, vecsOf, freezeAll, freezeL, hm, hlt]; rfl) ?_; (first | refine SubR.v ?_ | refine SubR.tup ?_); ((repeat' (first | exact All2.nil | refine All2.cons ?_ ?_ | exact SubV.one (SubT.same _) | exact SubV.one (SubT.nil _) | refine SubV.agg ?_ | exact SubT.same _ | exact SubT.nil _)); first | done | fail)))

theorem c53 (n : Int) : Pure Try.prog 53 [vlit (.int .i64 n)] (rInt (fast n)) := by
  by_cases h : 1 ≤ n ∧ n ≤ 7
  · have hm : (maj n == 0) = false := by rw [maj_in h]; simp; omega
    have hw : IntKind.i64.wrap (n - 1) = n - 1 := IntWalk.i64_in _ ⟨by omega, by omega⟩
    have hf : fast n = if n - 1 < maj n then maj n else n - 1 := by rw [fast, if_pos h, mx2]
    rw [hf]
    refine pure_of_body Try.func53 rfl (by simp [Try.f53]) ?_; rw [Try.ntmps53, Try.results53]; intro w0 G0
    ((repeat' (first | refine thenL_n ?_ | refine thenL_r ?_ | refine thenL_x ?_ | refine blockL_n ?_ | refine blockL_r ?_ | refine blockL_x ?_ | refine blockL_y rfl ?_ | refine awp_seq ?_ | refine awp_block ?_ | refine awp_ret ?_ | refine awp_exit ?_ | refine awp_skip ?_ | exact absurd hcond (by decide) | (refine awp_txt ?_; refine runs_to [] (by simp only [go_sem, hm, hw]; rfl) ?_) | (refine awp_draw mixed ?_; refine runs_to [] (by simp only [go_sem, hm, hw]; rfl) ?_) | refine runD_nil ⟨by kernel_rfl, ?_⟩ | refine runD_nil ?_ | (refine runD_call (c51 _) cb51 (by rfl) (by simp only [go_sem, hm, hw]; rfl) (by ((repeat' (first | exact All2.nil | refine All2.cons ?_ ?_ | exact SubV.one (SubT.same _) | exact SubV.one (SubT.nil _) | refine SubV.agg ?_ | exact SubT.same _ | exact SubT.nil _)); first | done | fail)) ?_; refine runs_to [] (by simp only [go_sem, hm, hw]; rfl) ?_) | (refine awp_cond (b := _) (by simp only [go_sem, evB, hm, hw]; rfl) (fun hcond => ?_) (fun hcond => ?_)))); all_goals (refine leaves_ok (by first | exact Or.inl rfl | exact Or.inr rfl) (by simp only [go_sem, resAll, resL, packL, vecsOf, freezeAll, freezeL, hm, hw]; rfl) ?_; (first | refine SubR.v ?_ | refine SubR.tup ?_); ((repeat' (first | exact All2.nil | refine All2.cons ?_ ?_ | exact SubV.one (SubT.same _) | exact SubV.one (SubT.nil _) | refine SubV.agg ?_ | exact SubT.same _ | exact SubT.nil _)); first | done | fail)))
  · have hm : (maj n == 0) = true := by rw [maj_out h]; rfl
    have hf : fast n = 0 := by rw [fast, if_neg h]
    rw [hf]
    refine pure_of_body Try.func53 rfl (by simp [Try.f53]) ?_; rw [Try.ntmps53, Try.results53]; intro w0 G0
    ((repeat' (first | refine thenL_n ?_ | refine thenL_r ?_ | refine thenL_x ?_ | refine blockL_n ?_ | refine blockL_r ?_ | refine blockL_x ?_ | refine blockL_y rfl ?_ | refine awp_seq ?_ | refine awp_block ?_ | refine awp_ret ?_ | refine awp_exit ?_ | refine awp_skip ?_ | exact absurd hcond (by decide) | (refine awp_txt ?_; refine runs_to [] (by simp only [go_sem, hm]; rfl) ?_) | (refine awp_draw mixed ?_; refine runs_to [] (by simp only [go_sem, hm]; rfl) ?_) | refine runD_nil ⟨by kernel_rfl, ?_⟩ | refine runD_nil ?_ | (refine runD_call (c51 _) cb51 (by rfl) (by simp only [go_sem, hm]; rfl) (by ((repeat' (first | exact All2.nil | refine All2.cons ?_ ?_ | exact SubV.one (SubT.same _) | exact SubV.one (SubT.nil _) | refine SubV.agg ?_ | exact SubT.same _ | exact SubT.nil _)); first | done | fail)) ?_; refine runs_to [] (by simp only [go_sem, hm]; rfl) ?_) | (refine awp_cond (b := _) (by simp only [go_sem, evB, hm]; rfl) (fun hcond => ?_) (fun hcond => ?_)))); all_goals (refine leaves_ok (by first | exact Or.inl rfl | exact Or.inr rfl) (by simp only [go_sem, resAll, resL, packL, vecsOf, freezeAll, freezeL, hm]; rfl) ?_; (first | refine SubR.v ?_ | refine SubR.tup ?_); ((repeat' (first | exact All2.nil | refine All2.cons ?_ ?_ | exact SubV.one (SubT.same _) | exact SubV.one (SubT.nil _) | refine SubV.agg ?_ | exact SubT.same _ | exact SubT.nil _)); first | done | fail)))

theorem c54 (n : Int) : Pure Try.prog 54 [vlit (.int .i64 n)] (rInt (fast n)) := by
  by_cases h : 1 ≤ n ∧ n ≤ 7
  · have hm : (0 : Int) < maj n := by rw [maj_in h]; omega
    have hw : IntKind.i64.wrap (n - 1) = n - 1 := IntWalk.i64_in _ ⟨by omega, by omega⟩
    by_cases h2 : maj n < n - 1
    · have hf : fast n = n - 1 := by rw [fast, if_pos h, mx2, if_neg (by omega)]
      rw [hf]
      refine pure_of_body Try.func54 rfl (by simp [Try.f54]) ?_; rw [Try.ntmps54, Try.results54]; intro w0 G0
      ((repeat' (first | refine thenL_n ?_ | refine thenL_r ?_ | refine thenL_x ?_ | refine blockL_n ?_ | refine blockL_r ?_ | refine blockL_x ?_ | refine blockL_y rfl ?_ | refine awp_seq ?_ | refine awp_block ?_ | refine awp_ret ?_ | refine awp_exit ?_ | refine awp_skip ?_ | exact absurd hcond (by decide) | (refine awp_txt ?_; refine runs_to [] (by simp only [go_sem, hm, hw, h2]; rfl) ?_) | (refine awp_draw mixed ?_; refine runs_to [] (by simp only [go_sem, hm, hw, h2]; rfl) ?_) | refine runD_nil ⟨by kernel_rfl, ?_⟩ | refine runD_nil ?_ | (refine runD_call (c52 _) cb52 (by rfl) (by simp only [go_sem, hm, hw, h2]; rfl) (by ((repeat' (first | exact All2.nil | refine All2.cons ?_ ?_ | exact SubV.one (SubT.same _) | exact SubV.one (SubT.nil _) | refine SubV.agg ?_ | exact SubT.same _ | exact SubT.nil _)); first | done | fail)) ?_; refine runs_to [] (by simp only [go_sem, hm, hw, h2]; rfl) ?_) | (refine awp_cond (b := _) (by simp only [go_sem, evB, hm, hw, h2]; rfl) (fun hcond => ?_) (fun hcond => ?_)))); all_goals (refine leaves_ok (by first | exact Or.inl rfl | exact Or.inr rfl) (by simp only [go_sem, resAll, resL, packL, vecsOf, freezeAll, freezeL, hm, hw, h2]; rfl) ?_; (first | refine SubR.v ?_ | refine SubR.tup ?_); ((repeat' (first | exact All2.nil | refine All2.cons ?_ ?_ | exact SubV.one (SubT.same _) | exact SubV.one (SubT.nil _) | refine SubV.agg ?_ | exact SubT.same _ | exact SubT.nil _)); first | done | fail)))
    · have hf : fast n = maj n := by rw [fast, if_pos h, mx2]; split <;> omega
      rw [hf]
      refine pure_of_body Try.func54 rfl (by simp [Try.f54]) ?_; rw [Try.ntmps54, Try.results54]; intro w0 G0
      ((repeat' (first | refine thenL_n ?_ | refine thenL_r ?_ | refine thenL_x ?_ | refine blockL_n ?_ | refine blockL_r ?_ | refine blockL_x ?_ | refine blockL_y rfl ?_ | refine awp_seq ?_ | refine awp_block ?_ | refine awp_ret ?_ | refine awp_exit ?_ | refine awp_skip ?_ | exact absurd hcond (by decide) | (refine awp_txt ?_; refine runs_to [] (by simp only [go_sem, hm, hw, h2]; rfl) ?_) | (refine awp_draw mixed ?_; refine runs_to [] (by simp only [go_sem, hm, hw, h2]; rfl) ?_) | refine runD_nil ⟨by kernel_rfl, ?_⟩ | refine runD_nil ?_ | (refine runD_call (c52 _) cb52 (by rfl) (by simp only [go_sem, hm, hw, h2]; rfl) (by ((repeat' (first | exact All2.nil | refine All2.cons ?_ ?_ | exact SubV.one (SubT.same _) | exact SubV.one (SubT.nil _) | refine SubV.agg ?_ | exact SubT.same _ | exact SubT.nil _)); first | done | fail)) ?_; refine runs_to [] (by simp only [go_sem, hm, hw, h2]; rfl) ?_) | (refine awp_cond (b := _) (by simp only [go_sem, evB, hm, hw, h2]; rfl) (fun hcond => ?_) (fun hcond => ?_)))); all_goals (refine leaves_ok (by first | exact Or.inl rfl | exact Or.inr rfl) (by simp only [go_sem, resAll, resL, packL, vecsOf, freezeAll, freezeL, hm, hw, h2]; rfl) ?_; (first | refine SubR.v ?_ | refine SubR.tup ?_); ((repeat' (first | exact All2.nil | refine All2.cons ?_ ?_ | exact SubV.one (SubT.same _) | exact SubV.one (SubT.nil _) | refine SubV.agg ?_ | exact SubT.same _ | exact SubT.nil _)); first | done | fail)))
  · have hm : ¬ (0 : Int) < maj n := by rw [maj_out h]; omega
    have hf : fast n = maj n := by rw [fast, if_neg h, maj_out h]
    rw [hf]
    refine pure_of_body Try.func54 rfl (by simp [Try.f54]) ?_; rw [Try.ntmps54, Try.results54]; intro w0 G0
    ((repeat' (first | refine thenL_n ?_ | refine thenL_r ?_ | refine thenL_x ?_ | refine blockL_n ?_ | refine blockL_r ?_ | refine blockL_x ?_ | refine blockL_y rfl ?_ | refine awp_seq ?_ | refine awp_block ?_ | refine awp_ret ?_ | refine awp_exit ?_ | refine awp_skip ?_ | exact absurd hcond (by decide) | (refine awp_txt ?_; refine runs_to [] (by simp only [go_sem, hm]; rfl) ?_) | (refine awp_draw mixed ?_; refine runs_to [] (by simp only [go_sem, hm]; rfl) ?_) | refine runD_nil ⟨by kernel_rfl, ?_⟩ | refine runD_nil ?_ | (refine runD_call (c52 _) cb52 (by rfl) (by simp only [go_sem, hm]; rfl) (by ((repeat' (first | exact All2.nil | refine All2.cons ?_ ?_ | exact SubV.one (SubT.same _) | exact SubV.one (SubT.nil _) | refine SubV.agg ?_ | exact SubT.same _ | exact SubT.nil _)); first | done | fail)) ?_; refine runs_to [] (by simp only [go_sem, hm]; rfl) ?_) | (refine awp_cond (b := _) (by simp only [go_sem, evB, hm]; rfl) (fun hcond => ?_) (fun hcond => ?_)))); all_goals (refine leaves_ok (by first | exact Or.inl rfl | exact Or.inr rfl) (by simp only [go_sem, resAll, resL, packL, vecsOf, freezeAll, freezeL, hm]; rfl) ?_; (first | refine SubR.v ?_ | refine SubR.tup ?_); ((repeat' (first | exact All2.nil | refine All2.cons ?_ ?_ | exact SubV.one (SubT.same _) | exact SubV.one (SubT.nil _) | refine SubV.agg ?_ | exact SubT.same _ | exact SubT.nil _)); first | done | fail)))

def attOK (s : Int) (d : List Int) : Bool := decide (0 ≤ s) && decide (s < 4611686018427387903) && vecOK d
theorem c93 (s : Int) (d : List Int) : Pure Try.prog 93 [att s d] (rBool (attOK s d)) := by
  by_cases h1 : 0 ≤ s
  · by_cases h2 : s < 4611686018427387903
    · have hf : attOK s d = vecOK d := by simp [attOK, h1, h2]
      rw [hf]
      cases h3 : vecOK d with
      | true =>
        refine pure_of_body Try.func93 rfl (by simp [Try.f93]) ?_; rw [Try.ntmps93, Try.results93]; intro w0 G0
        ((repeat' (first | refine thenL_n ?_ | refine thenL_r ?_ | refine thenL_x ?_ | refine blockL_n ?_ | refine blockL_r ?_ | refine blockL_x ?_ | refine blockL_y rfl ?_ | refine awp_seq ?_ | refine awp_block ?_ | refine awp_ret ?_ | refine awp_exit ?_ | refine awp_skip ?_ | exact absurd hcond (by decide) | (refine awp_txt ?_; refine runs_to [] (by simp only [go_sem, h1, h2, h3]; rfl) ?_) | (refine awp_draw mixed ?_; refine runs_to [] (by simp only [go_sem, h1, h2, h3]; rfl) ?_) | refine runD_nil ⟨by kernel_rfl, ?_⟩ | refine runD_nil ?_ | (refine runD_call (c29 _) cb29 (by rfl) (by simp only [go_sem, h1, h2, h3]; rfl) (by ((repeat' (first | exact All2.nil | refine All2.cons ?_ ?_ | exact SubV.one (SubT.same _) | exact SubV.one (SubT.nil _) | refine SubV.agg ?_ | exact SubT.same _ | exact SubT.nil _)); first | done | fail)) ?_; refine runs_to [] (by simp only [go_sem, h1, h2, h3]; rfl) ?_) | (refine awp_cond (b := _) (by simp only [go_sem, evB, h1, h2, h3]; rfl) (fun hcond => ?_) (fun hcond => ?_)))); all_goals (refine leaves_ok (by first | exact Or.inl rfl | exact Or.inr rfl) (by simp only [go_sem, resAll, resL, packL, vecsOf, freezeAll, freezeL, h1, h2, h3]; rfl) ?_; (first | refine SubR.v ?_ | refine SubR.tup ?_); ((repeat' (first | exact All2.nil | refine All2.cons ?_ ?_ | exact SubV.one (SubT.same _) | exact SubV.one (SubT.nil _) | refine SubV.agg ?_ | exact SubT.same _ | exact SubT.nil _)); first | done | fail)))
      | false =>
        refine pure_of_body Try.func93 rfl (by simp [Try.f93]) ?_; rw [Try.ntmps93, Try.results93]; intro w0 G0
        ((repeat' (first | refine thenL_n ?_ | refine thenL_r ?_ | refine thenL_x ?_ | refine blockL_n ?_ | refine blockL_r ?_ | refine blockL_x ?_ | refine blockL_y rfl ?_ | refine awp_seq ?_ | refine awp_block ?_ | refine awp_ret ?_ | refine awp_exit ?_ | refine awp_skip ?_ | exact absurd hcond (by decide) | (refine awp_txt ?_; refine runs_to [] (by simp only [go_sem, h1, h2, h3]; rfl) ?_) | (refine awp_draw mixed ?_; refine runs_to [] (by simp only [go_sem, h1, h2, h3]; rfl) ?_) | refine runD_nil ⟨by kernel_rfl, ?_⟩ | refine runD_nil ?_ | (refine runD_call (c29 _) cb29 (by rfl) (by simp only [go_sem, h1, h2, h3]; rfl) (by ((repeat' (first | exact All2.nil | refine All2.cons ?_ ?_ | exact SubV.one (SubT.same _) | exact SubV.one (SubT.nil _) | refine SubV.agg ?_ | exact SubT.same _ | exact SubT.nil _)); first | done | fail)) ?_; refine runs_to [] (by simp only [go_sem, h1, h2, h3]; rfl) ?_) | (refine awp_cond (b := _) (by simp only [go_sem, evB, h1, h2, h3]; rfl) (fun hcond => ?_) (fun hcond => ?_)))); all_goals (refine leaves_ok (by first | exact Or.inl rfl | exact Or.inr rfl) (by simp only [go_sem, resAll, resL, packL, vecsOf, freezeAll, freezeL, h1, h2, h3]; rfl) ?_; (first | refine SubR.v ?_ | refine SubR.tup ?_); ((repeat' (first | exact All2.nil | refine All2.cons ?_ ?_ | exact SubV.one (SubT.same _) | exact SubV.one (SubT.nil _) | refine SubV.agg ?_ | exact SubT.same _ | exact SubT.nil _)); first | done | fail)))
    · have hf : attOK s d = false := by simp [attOK, h2]
      rw [hf]
      refine pure_of_body Try.func93 rfl (by simp [Try.f93]) ?_; rw [Try.ntmps93, Try.results93]; intro w0 G0
      ((repeat' (first | refine thenL_n ?_ | refine thenL_r ?_ | refine thenL_x ?_ | refine blockL_n ?_ | refine blockL_r ?_ | refine blockL_x ?_ | refine blockL_y rfl ?_ | refine awp_seq ?_ | refine awp_block ?_ | refine awp_ret ?_ | refine awp_exit ?_ | refine awp_skip ?_ | exact absurd hcond (by decide) | (refine awp_txt ?_; refine runs_to [] (by simp only [go_sem, h1, h2]; rfl) ?_) | (refine awp_draw mixed ?_; refine runs_to [] (by simp only [go_sem, h1, h2]; rfl) ?_) | refine runD_nil ⟨by kernel_rfl, ?_⟩ | refine runD_nil ?_ | (refine awp_cond (b := _) (by simp only [go_sem, evB, h1, h2]; rfl) (fun hcond => ?_) (fun hcond => ?_)))); all_goals (refine leaves_ok (by first | exact Or.inl rfl | exact Or.inr rfl) (by simp only [go_sem, resAll, resL, packL, vecsOf, freezeAll, freezeL, h1, h2]; rfl) ?_; (first | refine SubR.v ?_ | refine SubR.tup ?_); ((repeat' (first | exact All2.nil | refine All2.cons ?_ ?_ | exact SubV.one (SubT.same _) | exact SubV.one (SubT.nil _) | refine SubV.agg ?_ | exact SubT.same _ | exact SubT.nil _)); first | done | fail)))
  · have hf : attOK s d = false := by simp [attOK, h1]
    rw [hf]
    refine pure_of_body Try.func93 rfl (by simp [Try.f93]) ?_; rw [Try.ntmps93, Try.results93]; intro w0 G0
    ((repeat' (first | refine thenL_n ?_ | refine thenL_r ?_ | refine thenL_x ?_ | refine blockL_n ?_ | refine blockL_r ?_ | refine blockL_x ?_ | refine blockL_y rfl ?_ | refine awp_seq ?_ | refine awp_block ?_ | refine awp_ret ?_ | refine awp_exit ?_ | refine awp_skip ?_ | exact absurd hcond (by decide) | (refine awp_txt ?_; refine runs_to [] (by simp only [go_sem, h1]; rfl) ?_) | (refine awp_draw mixed ?_; refine runs_to [] (by simp only [go_sem, h1]; rfl) ?_) | refine runD_nil ⟨by kernel_rfl, ?_⟩ | refine runD_nil ?_ | (refine awp_cond (b := _) (by simp only [go_sem, evB, h1]; rfl) (fun hcond => ?_) (fun hcond => ?_)))); all_goals (refine leaves_ok (by first | exact Or.inl rfl | exact Or.inr rfl) (by simp only [go_sem, resAll, resL, packL, vecsOf, freezeAll, freezeL, h1]; rfl) ?_; (first | refine SubR.v ?_ | refine SubR.tup ?_); ((repeat' (first | exact All2.nil | refine All2.cons ?_ ?_ | exact SubV.one (SubT.same _) | exact SubV.one (SubT.nil _) | refine SubV.agg ?_ | exact SubT.same _ | exact SubT.nil _)); first | done | fail)))

theorem c82 (xs : List Int) (hl : xs.length * 8 ≤ 140737488351232) : Pure Try.prog 82 [pInts xs] (.v (pInts xs)) := by
  have hl1 : xs.length ≤ 140737488355328 := by omega
  have hl2 : xs.length * 8 ≤ 140737488355328 := by omega
  refine pure_of_slice Try.func82 rfl (by simp [Try.f82]) (fun h => ?_) ?_
  · have h0 : xs = [] := by simpa using h
    subst h0
    rw [Try.ntmps82, Try.results82]
    intro w0 G0
    ((repeat' (first | refine thenL_n ?_ | refine thenL_r ?_ | refine thenL_x ?_ | refine blockL_n ?_ | refine blockL_r ?_ | refine blockL_x ?_ | refine blockL_y rfl ?_ | refine awp_seq ?_ | refine awp_block ?_ | refine awp_ret ?_ | refine awp_exit ?_ | refine awp_skip ?_ | exact absurd hcond (by decide) | (refine awp_txt ?_; refine runs_to [] (by simp only [go_sem, Option.isNone, Bool.or_self, Bool.or_true, Bool.or_false]; rfl) ?_) | (refine awp_draw mixed ?_; refine runs_to [] (by simp only [go_sem, Option.isNone, Bool.or_self, Bool.or_true, Bool.or_false]; rfl) ?_) | refine runD_nil ⟨by kernel_rfl, ?_⟩ | refine runD_nil ?_ | (refine awp_cond (b := _) (by simp only [go_sem, evB, Option.isNone, Bool.or_self, Bool.or_true, Bool.or_false]; rfl) (fun hcond => ?_) (fun hcond => ?_)))); all_goals (refine leaves_ok (by first | exact Or.inl rfl | exact Or.inr rfl) (by simp only [go_sem, resAll, resL, packL, vecsOf, freezeAll, freezeL, Option.isNone, Bool.or_self, Bool.or_true, Bool.or_false]; rfl) ?_; (first | refine SubR.v ?_ | refine SubR.tup ?_); ((repeat' (first | exact All2.nil | refine All2.cons ?_ ?_ | exact SubV.one (SubT.same _) | exact SubV.one (SubT.nil _) | refine SubV.agg ?_ | exact SubT.same _ | exact SubT.nil _)); first | done | fail)))
  rw [Try.ntmps82, Try.results82]
  intro w0 G0 ad n cp hv
  refine awp_seq ?_
  refine awp_txt ?_
  refine runs_to [] (by simp only [go_sem]; rfl) ?_
  refine runD_nil ?_
  refine thenL_n ?_
  refine awp_seq ?_
  refine awp_seq ?_
  refine awp_txt ?_
  refine runs_to [] (by simp only [go_sem, Option.isNone, Bool.or_true, Bool.or_false]; rfl) ?_
  refine runD_nil ?_
  refine thenL_n ?_
  (refine awp_cond (b := _) (by simp only [go_sem, evB]; rfl) (fun hcond => ?_) (fun hcond => ?_))
  · exact absurd hcond (by decide)
  refine awp_skip ?_
  refine thenL_n ?_
  refine awp_imp (Imp.lift 0 hv rfl) ?_
  ((repeat' (first | refine thenL_n ?_ | refine thenL_r ?_ | refine thenL_x ?_ | refine blockL_n ?_ | refine blockL_r ?_ | refine blockL_x ?_ | refine blockL_y rfl ?_ | refine awp_seq ?_ | refine awp_block ?_ | refine awp_ret ?_ | refine awp_exit ?_ | refine awp_skip ?_ | exact absurd hcond (by decide) | (refine awp_txt ?_; refine runs_to [] (by simp only [go_sem, hl1, hl2]; rfl) ?_) | (refine awp_draw mixed ?_; refine runs_to [] (by simp only [go_sem, hl1, hl2]; rfl) ?_) | refine runD_nil ⟨by kernel_rfl, ?_⟩ | refine runD_nil ?_ | (refine awp_cond (b := _) (by simp only [go_sem, evB, hl1, hl2]; rfl) (fun hcond => ?_) (fun hcond => ?_)))); all_goals (refine leaves_ok (by first | exact Or.inl rfl | exact Or.inr rfl) (by simp only [go_sem, resAll, resL, packL, vecsOf, freezeAll, freezeL, hl1, hl2]; rfl) ?_; (first | refine SubR.v ?_ | refine SubR.tup ?_); ((repeat' (first | exact All2.nil | refine All2.cons ?_ ?_ | exact SubV.one (SubT.same _) | exact SubV.one (SubT.nil _) | refine SubV.agg ?_ | exact SubT.same _ | exact SubT.nil _)); first | done | fail)))

theorem c94 (s : Int) (d : List Int) (hl : d.length * 8 ≤ 140737488351232) : Pure Try.prog 94 [att s d] (.v (att s d)) := by
  refine pure_of_body Try.func94 rfl (by simp [Try.f94]) ?_; rw [Try.ntmps94, Try.results94]; intro w0 G0
  ((repeat' (first | refine thenL_n ?_ | refine thenL_r ?_ | refine thenL_x ?_ | refine blockL_n ?_ | refine blockL_r ?_ | refine blockL_x ?_ | refine blockL_y rfl ?_ | refine awp_seq ?_ | refine awp_block ?_ | refine awp_ret ?_ | refine awp_exit ?_ | refine awp_skip ?_ | exact absurd hcond (by decide) | (refine awp_txt ?_; refine runs_to [] (by simp only [go_sem]; rfl) ?_) | (refine awp_draw mixed ?_; refine runs_to [] (by simp only [go_sem]; rfl) ?_) | refine runD_nil ⟨by kernel_rfl, ?_⟩ | refine runD_nil ?_ | (refine runD_call (c82 d hl) cb82 (by rfl) (by simp only [go_sem]; rfl) (by ((repeat' (first | exact All2.nil | refine All2.cons ?_ ?_ | exact SubV.one (SubT.same _) | exact SubV.one (SubT.nil _) | refine SubV.agg ?_ | exact SubT.same _ | exact SubT.nil _)); first | done | fail)) ?_; refine runs_to [] (by simp only [go_sem]; rfl) ?_) | (refine awp_cond (b := _) (by simp only [go_sem, evB]; rfl) (fun hcond => ?_) (fun hcond => ?_)))); all_goals (refine leaves_ok (by first | exact Or.inl rfl | exact Or.inr rfl) (by simp only [go_sem, resAll, resL, packL, vecsOf, freezeAll, freezeL]; rfl) ?_; (first | refine SubR.v ?_ | refine SubR.tup ?_); ((repeat' (first | exact All2.nil | refine All2.cons ?_ ?_ | exact SubV.one (SubT.same _) | exact SubV.one (SubT.nil _) | refine SubV.agg ?_ | exact SubT.same _ | exact SubT.nil _)); first | done | fail)))

theorem o94 (s : Int) (d : List Int) (h0 : d ≠ []) (hl : d.length ≤ 1000000) : Own Try.prog 94 [att s d] (.v (.agg [.t (.lit (.int .i64 s)), .row 0])) 1 3 (rowsI d) := by
  refine own_of_body Try.func94 rfl (by simp [Try.f94]) ?_; rw [Try.ntmps94, Try.results94]; intro w0 G0
  (repeat' (first | refine thenL_n ?_ | refine thenL_r ?_ | refine thenL_x ?_ | refine blockL_n ?_ | refine blockL_r ?_ | refine blockL_x ?_ | refine blockL_y rfl ?_ | refine awp_seq ?_ | refine awp_block ?_ | refine awp_ret ?_ | refine awp_exit ?_ | refine awp_skip ?_ | exact absurd hcond (by decide) | (refine awp_txt ?_; refine runs_to [] (by simp only [go_sem]; rfl) ?_) | (refine awp_draw mixed ?_; refine runs_to [] (by simp only [go_sem]; rfl) ?_) | refine runD_nil ⟨by kernel_rfl, ?_⟩ | refine runD_nil ?_ | (refine runD_own (o82 d h0 hl) cb82 (by rfl) (by simp only [go_sem]; rfl) (by simp only [go_sem]; rfl) (by ((repeat' (first | exact All2.nil | refine All2.cons ?_ ?_ | exact SubV.one (SubT.same _) | exact SubV.one (SubT.nil _) | refine SubV.agg ?_ | exact SubT.same _ | exact SubT.nil _)); first | done | fail)) ?_; refine runs_to [] (by simp only [go_sem]; rfl) ?_) | (refine awp_cond (b := _) (by simp only [go_sem, evB]; rfl) (fun hcond => ?_) (fun hcond => ?_))))
  refine leavesO_ok 7 (by first | exact Or.inl rfl | exact Or.inr rfl) (by simp only [go_sem,  ] <;> rfl) (by simp only [go_sem, resAll, resL,  ]; rfl) (by simp only [go_sem, packL, SV.to, V1.to, At.to,  ])

/-- The first place of a number. -/
def ixF : List Int → Int → Nat → Int
  | [], _, _ => -1
  | x :: xs, a, k => if a = x then k else ixF xs a (k + 1)
theorem ixF_hit (a : Int) : ∀ (xs : List Int) (i k : Nat), (∀ j, j < i → xs[j]? ≠ some a) → xs[i]? = some a → ixF xs a k = ((k + i : Nat) : Int)
  | [], i, k, _, h => by simp at h
  | x :: xs, 0, k, _, h => by simp at h; subst h; simp [ixF]
  | x :: xs, i + 1, k, hn, h => by
    have h0 := hn 0 (by omega)
    have hne : ¬ a = x := by intro e; subst e; simp at h0
    rw [ixF, if_neg hne, ixF_hit a xs i (k + 1) (fun j hj => by have := hn (j + 1) (by omega); simpa using this) (by simpa using h)]
    congr 1; omega
theorem ixF_miss (a : Int) : ∀ (xs : List Int) (k : Nat), a ∉ xs → ixF xs a k = -1
  | [], k, _ => rfl
  | x :: xs, k, h => by
    simp only [List.mem_cons, not_or] at h
    rw [ixF, if_neg h.1, ixF_miss a xs (k + 1) h.2]
theorem ixF_nonneg (a : Int) : ∀ (xs : List Int) (k : Nat), a ∈ xs → 0 ≤ ixF xs a k
  | [], k, h => by simp at h
  | x :: xs, k, h => by
    rw [ixF]
    split
    · omega
    · rename_i hne
      exact ixF_nonneg a xs (k + 1) (by simpa [hne] using h)

theorem c118 (xs : List Int) (a : Int) (hl : xs.length ≤ 4611686018427387903) : Pure Try.prog 118 [pInts xs, vlit (.int .i64 a)] (rInt (ixF xs a 0)) := by
  refine pure_of_body Try.func118 rfl (by simp [Try.f118]) ?_; rw [Try.ntmps118, Try.results118]; intro w0 G0
  (repeat' (first | refine thenL_n ?_ | refine thenL_r ?_ | refine thenL_x ?_ | refine blockL_n ?_ | refine blockL_r ?_ | refine blockL_x ?_ | refine blockL_y rfl ?_ | refine awp_seq ?_ | refine awp_block ?_ | refine awp_ret ?_ | refine awp_exit ?_ | refine awp_skip ?_ | exact absurd hcond (by decide) | (refine awp_txt ?_; refine runs_to [] (by simp only [go_sem]; rfl) ?_) | (refine awp_draw mixed ?_; refine runs_to [] (by simp only [go_sem]; rfl) ?_) | refine runD_nil ⟨by kernel_rfl, ?_⟩ | refine runD_nil ?_ | (refine awp_cond (b := _) (by simp only [go_sem, evB]; rfl) (fun hcond => ?_) (fun hcond => ?_))))
  refine awp_loop (fun i : Nat => [(.slot 0, sT (vInts xs)), (.slot 1, sI a), (.slot 7, sI xs.length), (.slot 8, sI i)]) (fun i => i ≤ xs.length ∧ ∀ j, j < i → xs[j]? ≠ some a) (fun i => xs.length - i) 0 ⟨Nat.zero_le _, by omega⟩ (by refine Imp.of_in ?_; simp only [go_sem]) ?_
  intro i hi
  obtain ⟨hi, hall⟩ := hi
  by_cases hlt : (i : Int) < xs.length
  · have hx : xs[i]? = some xs[i] := List.getElem?_eq_getElem (by omega)
    have hw := up i (by omega)
    by_cases he : (a == xs[i]) = true
    · have hv : ixF xs a 0 = (i : Int) := by
        rw [ixF_hit a xs i 0 hall (by rw [hx]; simp at he; rw [he])]; simp
      rw [hv]
      ((repeat' (first | refine thenL_n ?_ | refine thenL_r ?_ | refine thenL_x ?_ | refine blockL_n ?_ | refine blockL_r ?_ | refine blockL_x ?_ | refine blockL_y rfl ?_ | refine awp_seq ?_ | refine awp_block ?_ | refine awp_ret ?_ | refine awp_exit ?_ | refine awp_skip ?_ | exact absurd hcond (by decide) | (refine awp_txt ?_; refine runs_to [] (by simp only [go_sem, hlt, hx, he]; rfl) ?_) | (refine awp_draw mixed ?_; refine runs_to [] (by simp only [go_sem, hlt, hx, he]; rfl) ?_) | refine runD_nil ⟨by kernel_rfl, ?_⟩ | refine runD_nil ?_ | (refine awp_cond (b := _) (by simp only [go_sem, evB, hlt, hx, he]; rfl) (fun hcond => ?_) (fun hcond => ?_)))); all_goals (refine leaves_ok (by first | exact Or.inl rfl | exact Or.inr rfl) (by simp only [go_sem, resAll, resL, packL, vecsOf, freezeAll, freezeL, hlt, hx, he]; rfl) ?_; (first | refine SubR.v ?_ | refine SubR.tup ?_); ((repeat' (first | exact All2.nil | refine All2.cons ?_ ?_ | exact SubV.one (SubT.same _) | exact SubV.one (SubT.nil _) | refine SubV.agg ?_ | exact SubT.same _ | exact SubT.nil _)); first | done | fail)))
    · have he : (a == xs[i]) = false := by simpa using he
      (repeat' (first | refine thenL_n ?_ | refine thenL_r ?_ | refine thenL_x ?_ | refine blockL_n ?_ | refine blockL_r ?_ | refine blockL_x ?_ | refine blockL_y rfl ?_ | refine awp_seq ?_ | refine awp_block ?_ | refine awp_ret ?_ | refine awp_exit ?_ | refine awp_skip ?_ | exact absurd hcond (by decide) | (refine awp_txt ?_; refine runs_to [] (by simp only [go_sem, hlt, hx, he, hw]; rfl) ?_) | (refine awp_draw mixed ?_; refine runs_to [] (by simp only [go_sem, hlt, hx, he, hw]; rfl) ?_) | refine runD_nil ⟨by kernel_rfl, ?_⟩ | refine runD_nil ?_ | (refine awp_cond (b := _) (by simp only [go_sem, evB, hlt, hx, he, hw]; rfl) (fun hcond => ?_) (fun hcond => ?_))))
      refine ⟨i + 1, ⟨by omega, fun j hj => ?_⟩, by omega, (by refine Imp.of_in ?_; simp only [go_sem])⟩
      by_cases hji : j = i
      · subst hji; rw [hx]; simp at he ⊢; exact fun h => he h.symm
      · exact hall j (by omega)
  · have hv : ixF xs a 0 = -1 := ixF_miss a xs 0 fun h => by
      obtain ⟨j, hj⟩ := List.mem_iff_getElem?.1 h
      have := (List.getElem?_eq_some_iff.1 hj).1
      exact hall j (by omega) hj
    rw [hv]
    ((repeat' (first | refine thenL_n ?_ | refine thenL_r ?_ | refine thenL_x ?_ | refine blockL_n ?_ | refine blockL_r ?_ | refine blockL_x ?_ | refine blockL_y rfl ?_ | refine awp_seq ?_ | refine awp_block ?_ | refine awp_ret ?_ | refine awp_exit ?_ | refine awp_skip ?_ | exact absurd hcond (by decide) | (refine awp_txt ?_; refine runs_to [] (by simp only [go_sem, hlt]; rfl) ?_) | (refine awp_draw mixed ?_; refine runs_to [] (by simp only [go_sem, hlt]; rfl) ?_) | refine runD_nil ⟨by kernel_rfl, ?_⟩ | refine runD_nil ?_ | (refine awp_cond (b := _) (by simp only [go_sem, evB, hlt]; rfl) (fun hcond => ?_) (fun hcond => ?_)))); all_goals (refine leaves_ok (by first | exact Or.inl rfl | exact Or.inr rfl) (by simp only [go_sem, resAll, resL, packL, vecsOf, freezeAll, freezeL, hlt]; rfl) ?_; (first | refine SubR.v ?_ | refine SubR.tup ?_); ((repeat' (first | exact All2.nil | refine All2.cons ?_ ?_ | exact SubV.one (SubT.same _) | exact SubV.one (SubT.nil _) | refine SubV.agg ?_ | exact SubT.same _ | exact SubT.nil _)); first | done | fail)))

theorem c95 (xs : List Int) (a : Int) (hl : xs.length ≤ 4611686018427387903) : Pure Try.prog 95 [pInts xs, vlit (.int .i64 a)] (rBool (decide (a ∈ xs))) := by
  have hf : decide (a ∈ xs) = decide (0 ≤ ixF xs a 0) := by
    by_cases h : a ∈ xs
    · simp [h, ixF_nonneg a xs 0 h]
    · simp [h, ixF_miss a xs 0 h]
  rw [hf]
  refine pure_of_body Try.func95 rfl (by simp [Try.f95]) ?_; rw [Try.ntmps95, Try.results95]; intro w0 G0
  ((repeat' (first | refine thenL_n ?_ | refine thenL_r ?_ | refine thenL_x ?_ | refine blockL_n ?_ | refine blockL_r ?_ | refine blockL_x ?_ | refine blockL_y rfl ?_ | refine awp_seq ?_ | refine awp_block ?_ | refine awp_ret ?_ | refine awp_exit ?_ | refine awp_skip ?_ | exact absurd hcond (by decide) | (refine awp_txt ?_; refine runs_to [] (by simp only [go_sem]; rfl) ?_) | (refine awp_draw mixed ?_; refine runs_to [] (by simp only [go_sem]; rfl) ?_) | refine runD_nil ⟨by kernel_rfl, ?_⟩ | refine runD_nil ?_ | (refine runD_call (c118 xs a hl) cb118 (by rfl) (by simp only [go_sem]; rfl) (by ((repeat' (first | exact All2.nil | refine All2.cons ?_ ?_ | exact SubV.one (SubT.same _) | exact SubV.one (SubT.nil _) | refine SubV.agg ?_ | exact SubT.same _ | exact SubT.nil _)); first | done | fail)) ?_; refine runs_to [] (by simp only [go_sem]; rfl) ?_) | (refine awp_cond (b := _) (by simp only [go_sem, evB]; rfl) (fun hcond => ?_) (fun hcond => ?_)))); all_goals (refine leaves_ok (by first | exact Or.inl rfl | exact Or.inr rfl) (by simp only [go_sem, resAll, resL, packL, vecsOf, freezeAll, freezeL]; rfl) ?_; (first | refine SubR.v ?_ | refine SubR.tup ?_); ((repeat' (first | exact All2.nil | refine All2.cons ?_ ?_ | exact SubV.one (SubT.same _) | exact SubV.one (SubT.nil _) | refine SubV.agg ?_ | exact SubT.same _ | exact SubT.nil _)); first | done | fail)))
end Go.Proofs.Ytbohgpdpglfepaa
