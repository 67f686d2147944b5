import Derived.Test.YtbohgpdpglfepaaTy
import Derived.Test.YtbohgpdpglfepaaCb
import Derived.KernelRfl
import Derived.IntWalk
set_option linter.unusedVariables false
set_option linter.unusedSimpArgs false
namespace Go.Proofs.Ytbohgpdpglfepaa
open Go.AM
attribute [local irreducible] AWP thenL blockL AM.Leaves LeavesO RunD
attribute [local go_sem] runs stepR actF inF frzA frzW lastW act act1 actPick actNil actBin
  actUn actConv actExtract actFieldAddr actField actAlloc keysOf actBox actLoad treesOf actStore actIndex
  actLen actMx srcL actAppend actMake actBuild actBuildSlice boundL actSlice actCall actEqS isStruct
  isSlice actText actCopy litsOf kindsOK fieldsPlain eqAll eqop dstB dstN boolS litB
  litV sv binv unv lits takeC cellsR trees cellsW mxv repl parts
  fillAt fillRows V1.cs mkV ev evr AM.look put del applyL delD wrD
  undefS SV.to V1.to At.to keysL notIn freshKey PV.up PR.up entry entryV evp
  isAt actPtrNil capsL actFunc sameV sameVs pureCtx doc mkVar AM.Loc.key Cont.keys SV.keys
  V1.keys At.keys Cont.sub SV.sub V1.sub At.sub guardR argsL callR Nat.blt_eq Nat.blt Nat.ble
  Nat.beq_eq_true_eq beq_self_eq_true Array.toList List.map List.append_eq List.nil_append List.cons_append List.append_nil List.append_assoc Bool.and_eq_true decide_true decide_false
  decide_eq_true_eq Bool.not_true Bool.not_false reduceCtorEq if_true if_false ite_true ite_false reduceIte AM.Loc.slot.injEq AM.Loc.cell.injEq AM.Loc.vec.injEq
  List.getElem?_cons_zero List.getElem?_cons_succ List.getElem?_nil Option.map_some Option.map_none Option.toList List.flatMap_nil List.flatMap_cons Bool.and_true Bool.true_and Bool.and_false Bool.false_and
  Bool.true_eq_false Bool.false_eq_true Nat.reduceBEq Nat.reduceEqDiff bool_beq_tt bool_beq_ff bool_beq_tf bool_beq_ft List.length_cons List.length_nil List.drop List.take
  List.drop_zero List.take_zero List.all_cons List.all_nil Value.oneCell' Nat.zero_add Nat.reduceAdd Nat.reduceMul Nat.reduceSub Nat.reduceLT Nat.reduceLeDiff Int.reduceLT
  Int.reduceLE Int.reduceEq Int.reduceBEq Int.reduceBNe Int.reduceAdd Int.reduceSub Int.reduceMul Int.reduceNeg Int.reduceToNat Nat.succ_ne_zero List.replicate and_true
  true_and and_false false_and and_self ge_iff_le gt_iff_lt bne_self_eq_false List.zip_cons_cons List.zip_nil_left List.zip List.zipWith Int.natCast_nonneg
  Int.toNat_natCast List.getElem?_map List.length_map sT sI sB sR sP rV AllIn Int.toNat_zero Int.ofNat_zero
  Int.natCast_zero Nat.le_refl List.mapM_cons List.mapM_nil Option.bind_eq_bind Option.bind_some Option.pure_def List.set_cons_zero List.set_cons_succ List.length_set tt2 tt3
  tt4 tt5 tt9 tt12 tt21 tt22 tt23 tt24 tt25 tt36 tt37 tt43
  tt44 tt51 tt52 tt53 tt59 tt67 tt68 tt69 tt74 tt75 tt76 tt77
  tt78 tt79 tt89 tt92 tt95 tt96 tt97 tt98 tt99 tt102 tt103 tt106
  tt107 tt108 tt114 tt115 tt116 tt117 tt118 tt119 tt120 tt122 tt124 tt125
  tt126 tt127 tt130 tt131 tt132 tt133 tt134 tt135 tt137 tt138 tt139 tt147
  tt148 tt149 tt159 tt164 tt165 tt167 tt168 tt169 tt170 tt171 tt190 tt191
  tt194 tt200 tt208 tt212

def vlit (v : Value) : PV := .one (.lit v)
def bal (r n : Int) : PV := .agg [.lit (.int .i64 r), .lit (.int .i64 n)]
def rInt (n : Int) : PR := .v (.one (.lit (.int .i64 n)))
def rBool (b : Bool) : PR := .v (.one (.lit (.bool b)))
def vInts (xs : List Int) : T := .sl 1 (xs.map fun n => [.lit (.int .i64 n)])
def pInts (xs : List Int) : PV := .one (vInts xs)
attribute [local go_sem] vlit bal rInt rBool vInts pInts

def balOK (r n : Int) : Bool := decide (0 ≤ r) && decide (r ≤ 1099511627776) && decide (0 ≤ n) && decide (n < 7)

theorem c24 (r n : Int) : Pure Try.prog 24 [bal r n] (rInt (if balOK r n then 0 else 110)) := by
  by_cases h1 : r < 0
  · have hb : balOK r n = false := by simp [balOK]; omega
    rw [hb]
    refine pure_of_body Try.func24 rfl (by simp [Try.f24]) ?_; rw [Try.ntmps24, Try.results24]; intro w0 G0
    ((repeat' (first | refine thenL_n ?_ | refine thenL_r ?_ | refine thenL_x ?_ | refine blockL_n ?_ | refine blockL_r ?_ | refine blockL_x ?_ | refine blockL_y rfl ?_ | refine awp_seq ?_ | refine awp_block ?_ | refine awp_ret ?_ | refine awp_exit ?_ | refine awp_skip ?_ | exact absurd hcond (by decide) | (refine awp_txt ?_; refine runs_to [] (by simp only [go_sem, h1]; rfl) ?_) | (refine awp_draw mixed ?_; refine runs_to [] (by simp only [go_sem, h1]; rfl) ?_) | refine runD_nil ⟨by kernel_rfl, ?_⟩ | refine runD_nil ?_ | (refine awp_cond (b := _) (by simp only [go_sem, evB, h1]; rfl) (fun hcond => ?_) (fun hcond => ?_)))); all_goals (refine leaves_ok (by first | exact Or.inl rfl | exact Or.inr rfl) (by simp only [go_sem, resAll, resL, packL, vecsOf, freezeAll, freezeL, h1]; rfl) ?_; (first | refine SubR.v ?_ | refine SubR.tup ?_); ((repeat' (first | exact All2.nil | refine All2.cons ?_ ?_ | exact SubV.one (SubT.same _) | exact SubV.one (SubT.nil _) | refine SubV.agg ?_ | exact SubT.same _ | exact SubT.nil _)); first | done | fail)))
  by_cases h2 : 1099511627776 < r
  · have hb : balOK r n = false := by simp [balOK]; omega
    rw [hb]
    refine pure_of_body Try.func24 rfl (by simp [Try.f24]) ?_; rw [Try.ntmps24, Try.results24]; intro w0 G0
    ((repeat' (first | refine thenL_n ?_ | refine thenL_r ?_ | refine thenL_x ?_ | refine blockL_n ?_ | refine blockL_r ?_ | refine blockL_x ?_ | refine blockL_y rfl ?_ | refine awp_seq ?_ | refine awp_block ?_ | refine awp_ret ?_ | refine awp_exit ?_ | refine awp_skip ?_ | exact absurd hcond (by decide) | (refine awp_txt ?_; refine runs_to [] (by simp only [go_sem, h1, h2]; rfl) ?_) | (refine awp_draw mixed ?_; refine runs_to [] (by simp only [go_sem, h1, h2]; rfl) ?_) | refine runD_nil ⟨by kernel_rfl, ?_⟩ | refine runD_nil ?_ | (refine awp_cond (b := _) (by simp only [go_sem, evB, h1, h2]; rfl) (fun hcond => ?_) (fun hcond => ?_)))); all_goals (refine leaves_ok (by first | exact Or.inl rfl | exact Or.inr rfl) (by simp only [go_sem, resAll, resL, packL, vecsOf, freezeAll, freezeL, h1, h2]; rfl) ?_; (first | refine SubR.v ?_ | refine SubR.tup ?_); ((repeat' (first | exact All2.nil | refine All2.cons ?_ ?_ | exact SubV.one (SubT.same _) | exact SubV.one (SubT.nil _) | refine SubV.agg ?_ | exact SubT.same _ | exact SubT.nil _)); first | done | fail)))
  by_cases h3 : n < 0
  · have hb : balOK r n = false := by simp [balOK]; omega
    rw [hb]
    refine pure_of_body Try.func24 rfl (by simp [Try.f24]) ?_; rw [Try.ntmps24, Try.results24]; intro w0 G0
    ((repeat' (first | refine thenL_n ?_ | refine thenL_r ?_ | refine thenL_x ?_ | refine blockL_n ?_ | refine blockL_r ?_ | refine blockL_x ?_ | refine blockL_y rfl ?_ | refine awp_seq ?_ | refine awp_block ?_ | refine awp_ret ?_ | refine awp_exit ?_ | refine awp_skip ?_ | exact absurd hcond (by decide) | (refine awp_txt ?_; refine runs_to [] (by simp only [go_sem, h1, h2, h3]; rfl) ?_) | (refine awp_draw mixed ?_; refine runs_to [] (by simp only [go_sem, h1, h2, h3]; rfl) ?_) | refine runD_nil ⟨by kernel_rfl, ?_⟩ | refine runD_nil ?_ | (refine awp_cond (b := _) (by simp only [go_sem, evB, h1, h2, h3]; rfl) (fun hcond => ?_) (fun hcond => ?_)))); all_goals (refine leaves_ok (by first | exact Or.inl rfl | exact Or.inr rfl) (by simp only [go_sem, resAll, resL, packL, vecsOf, freezeAll, freezeL, h1, h2, h3]; rfl) ?_; (first | refine SubR.v ?_ | refine SubR.tup ?_); ((repeat' (first | exact All2.nil | refine All2.cons ?_ ?_ | exact SubV.one (SubT.same _) | exact SubV.one (SubT.nil _) | refine SubV.agg ?_ | exact SubT.same _ | exact SubT.nil _)); first | done | fail)))
  by_cases h4 : 7 ≤ n
  · have hb : balOK r n = false := by simp [balOK]; omega
    rw [hb]
    refine pure_of_body Try.func24 rfl (by simp [Try.f24]) ?_; rw [Try.ntmps24, Try.results24]; intro w0 G0
    ((repeat' (first | refine thenL_n ?_ | refine thenL_r ?_ | refine thenL_x ?_ | refine blockL_n ?_ | refine blockL_r ?_ | refine blockL_x ?_ | refine blockL_y rfl ?_ | refine awp_seq ?_ | refine awp_block ?_ | refine awp_ret ?_ | refine awp_exit ?_ | refine awp_skip ?_ | exact absurd hcond (by decide) | (refine awp_txt ?_; refine runs_to [] (by simp only [go_sem, h1, h2, h3, h4]; rfl) ?_) | (refine awp_draw mixed ?_; refine runs_to [] (by simp only [go_sem, h1, h2, h3, h4]; rfl) ?_) | refine runD_nil ⟨by kernel_rfl, ?_⟩ | refine runD_nil ?_ | (refine awp_cond (b := _) (by simp only [go_sem, evB, h1, h2, h3, h4]; rfl) (fun hcond => ?_) (fun hcond => ?_)))); all_goals (refine leaves_ok (by first | exact Or.inl rfl | exact Or.inr rfl) (by simp only [go_sem, resAll, resL, packL, vecsOf, freezeAll, freezeL, h1, h2, h3, h4]; rfl) ?_; (first | refine SubR.v ?_ | refine SubR.tup ?_); ((repeat' (first | exact All2.nil | refine All2.cons ?_ ?_ | exact SubV.one (SubT.same _) | exact SubV.one (SubT.nil _) | refine SubV.agg ?_ | exact SubT.same _ | exact SubT.nil _)); first | done | fail)))
  have hb : balOK r n = true := by simp [balOK]; omega
  rw [hb]
  refine pure_of_body Try.func24 rfl (by simp [Try.f24]) ?_; rw [Try.ntmps24, Try.results24]; intro w0 G0
  ((repeat' (first | refine thenL_n ?_ | refine thenL_r ?_ | refine thenL_x ?_ | refine blockL_n ?_ | refine blockL_r ?_ | refine blockL_x ?_ | refine blockL_y rfl ?_ | refine awp_seq ?_ | refine awp_block ?_ | refine awp_ret ?_ | refine awp_exit ?_ | refine awp_skip ?_ | exact absurd hcond (by decide) | (refine awp_txt ?_; refine runs_to [] (by simp only [go_sem, h1, h2, h3, h4]; rfl) ?_) | (refine awp_draw mixed ?_; refine runs_to [] (by simp only [go_sem, h1, h2, h3, h4]; rfl) ?_) | refine runD_nil ⟨by kernel_rfl, ?_⟩ | refine runD_nil ?_ | (refine awp_cond (b := _) (by simp only [go_sem, evB, h1, h2, h3, h4]; rfl) (fun hcond => ?_) (fun hcond => ?_)))); all_goals (refine leaves_ok (by first | exact Or.inl rfl | exact Or.inr rfl) (by simp only [go_sem, resAll, resL, packL, vecsOf, freezeAll, freezeL, h1, h2, h3, h4]; rfl) ?_; (first | refine SubR.v ?_ | refine SubR.tup ?_); ((repeat' (first | exact All2.nil | refine All2.cons ?_ ?_ | exact SubV.one (SubT.same _) | exact SubV.one (SubT.nil _) | refine SubV.agg ?_ | exact SubT.same _ | exact SubT.nil _)); first | done | fail)))

theorem c25 (r n : Int) : Pure Try.prog 25 [bal r n] (rBool (!balOK r n)) := by
  by_cases h1 : r < 0
  · have hb : balOK r n = false := by simp [balOK]; omega
    rw [hb]
    refine pure_of_body Try.func25 rfl (by simp [Try.f25]) ?_; rw [Try.ntmps25, Try.results25]; intro w0 G0
    ((repeat' (first | refine thenL_n ?_ | refine thenL_r ?_ | refine thenL_x ?_ | refine blockL_n ?_ | refine blockL_r ?_ | refine blockL_x ?_ | refine blockL_y rfl ?_ | refine awp_seq ?_ | refine awp_block ?_ | refine awp_ret ?_ | refine awp_exit ?_ | refine awp_skip ?_ | exact absurd hcond (by decide) | (refine awp_txt ?_; refine runs_to [] (by simp only [go_sem, h1]; rfl) ?_) | (refine awp_draw mixed ?_; refine runs_to [] (by simp only [go_sem, h1]; rfl) ?_) | refine runD_nil ⟨by kernel_rfl, ?_⟩ | refine runD_nil ?_ | (refine awp_cond (b := _) (by simp only [go_sem, evB, h1]; rfl) (fun hcond => ?_) (fun hcond => ?_)))); all_goals (refine leaves_ok (by first | exact Or.inl rfl | exact Or.inr rfl) (by simp only [go_sem, resAll, resL, packL, vecsOf, freezeAll, freezeL, h1]; rfl) ?_; (first | refine SubR.v ?_ | refine SubR.tup ?_); ((repeat' (first | exact All2.nil | refine All2.cons ?_ ?_ | exact SubV.one (SubT.same _) | exact SubV.one (SubT.nil _) | refine SubV.agg ?_ | exact SubT.same _ | exact SubT.nil _)); first | done | fail)))
  by_cases h2 : 1099511627776 < r
  · have hb : balOK r n = false := by simp [balOK]; omega
    rw [hb]
    refine pure_of_body Try.func25 rfl (by simp [Try.f25]) ?_; rw [Try.ntmps25, Try.results25]; intro w0 G0
    ((repeat' (first | refine thenL_n ?_ | refine thenL_r ?_ | refine thenL_x ?_ | refine blockL_n ?_ | refine blockL_r ?_ | refine blockL_x ?_ | refine blockL_y rfl ?_ | refine awp_seq ?_ | refine awp_block ?_ | refine awp_ret ?_ | refine awp_exit ?_ | refine awp_skip ?_ | exact absurd hcond (by decide) | (refine awp_txt ?_; refine runs_to [] (by simp only [go_sem, h1, h2]; rfl) ?_) | (refine awp_draw mixed ?_; refine runs_to [] (by simp only [go_sem, h1, h2]; rfl) ?_) | refine runD_nil ⟨by kernel_rfl, ?_⟩ | refine runD_nil ?_ | (refine awp_cond (b := _) (by simp only [go_sem, evB, h1, h2]; rfl) (fun hcond => ?_) (fun hcond => ?_)))); all_goals (refine leaves_ok (by first | exact Or.inl rfl | exact Or.inr rfl) (by simp only [go_sem, resAll, resL, packL, vecsOf, freezeAll, freezeL, h1, h2]; rfl) ?_; (first | refine SubR.v ?_ | refine SubR.tup ?_); ((repeat' (first | exact All2.nil | refine All2.cons ?_ ?_ | exact SubV.one (SubT.same _) | exact SubV.one (SubT.nil _) | refine SubV.agg ?_ | exact SubT.same _ | exact SubT.nil _)); first | done | fail)))
  by_cases h3 : n < 0
  · have hb : balOK r n = false := by simp [balOK]; omega
    rw [hb]
    refine pure_of_body Try.func25 rfl (by simp [Try.f25]) ?_; rw [Try.ntmps25, Try.results25]; intro w0 G0
    ((repeat' (first | refine thenL_n ?_ | refine thenL_r ?_ | refine thenL_x ?_ | refine blockL_n ?_ | refine blockL_r ?_ | refine blockL_x ?_ | refine blockL_y rfl ?_ | refine awp_seq ?_ | refine awp_block ?_ | refine awp_ret ?_ | refine awp_exit ?_ | refine awp_skip ?_ | exact absurd hcond (by decide) | (refine awp_txt ?_; refine runs_to [] (by simp only [go_sem, h1, h2, h3]; rfl) ?_) | (refine awp_draw mixed ?_; refine runs_to [] (by simp only [go_sem, h1, h2, h3]; rfl) ?_) | refine runD_nil ⟨by kernel_rfl, ?_⟩ | refine runD_nil ?_ | (refine awp_cond (b := _) (by simp only [go_sem, evB, h1, h2, h3]; rfl) (fun hcond => ?_) (fun hcond => ?_)))); all_goals (refine leaves_ok (by first | exact Or.inl rfl | exact Or.inr rfl) (by simp only [go_sem, resAll, resL, packL, vecsOf, freezeAll, freezeL, h1, h2, h3]; rfl) ?_; (first | refine SubR.v ?_ | refine SubR.tup ?_); ((repeat' (first | exact All2.nil | refine All2.cons ?_ ?_ | exact SubV.one (SubT.same _) | exact SubV.one (SubT.nil _) | refine SubV.agg ?_ | exact SubT.same _ | exact SubT.nil _)); first | done | fail)))
  by_cases h4 : 6 < n
  · have hb : balOK r n = false := by simp [balOK]; omega
    rw [hb]
    refine pure_of_body Try.func25 rfl (by simp [Try.f25]) ?_; rw [Try.ntmps25, Try.results25]; intro w0 G0
    ((repeat' (first | refine thenL_n ?_ | refine thenL_r ?_ | refine thenL_x ?_ | refine blockL_n ?_ | refine blockL_r ?_ | refine blockL_x ?_ | refine blockL_y rfl ?_ | refine awp_seq ?_ | refine awp_block ?_ | refine awp_ret ?_ | refine awp_exit ?_ | refine awp_skip ?_ | exact absurd hcond (by decide) | (refine awp_txt ?_; refine runs_to [] (by simp only [go_sem, h1, h2, h3, h4]; rfl) ?_) | (refine awp_draw mixed ?_; refine runs_to [] (by simp only [go_sem, h1, h2, h3, h4]; rfl) ?_) | refine runD_nil ⟨by kernel_rfl, ?_⟩ | refine runD_nil ?_ | (refine awp_cond (b := _) (by simp only [go_sem, evB, h1, h2, h3, h4]; rfl) (fun hcond => ?_) (fun hcond => ?_)))); all_goals (refine leaves_ok (by first | exact Or.inl rfl | exact Or.inr rfl) (by simp only [go_sem, resAll, resL, packL, vecsOf, freezeAll, freezeL, h1, h2, h3, h4]; rfl) ?_; (first | refine SubR.v ?_ | refine SubR.tup ?_); ((repeat' (first | exact All2.nil | refine All2.cons ?_ ?_ | exact SubV.one (SubT.same _) | exact SubV.one (SubT.nil _) | refine SubV.agg ?_ | exact SubT.same _ | exact SubT.nil _)); first | done | fail)))
  have hb : balOK r n = true := by simp [balOK]; omega
  rw [hb]
  refine pure_of_body Try.func25 rfl (by simp [Try.f25]) ?_; rw [Try.ntmps25, Try.results25]; intro w0 G0
  ((repeat' (first | refine thenL_n ?_ | refine thenL_r ?_ | refine thenL_x ?_ | refine blockL_n ?_ | refine blockL_r ?_ | refine blockL_x ?_ | refine blockL_y rfl ?_ | refine awp_seq ?_ | refine awp_block ?_ | refine awp_ret ?_ | refine awp_exit ?_ | refine awp_skip ?_ | exact absurd hcond (by decide) | (refine awp_txt ?_; refine runs_to [] (by simp only [go_sem, h1, h2, h3, h4]; rfl) ?_) | (refine awp_draw mixed ?_; refine runs_to [] (by simp only [go_sem, h1, h2, h3, h4]; rfl) ?_) | refine runD_nil ⟨by kernel_rfl, ?_⟩ | refine runD_nil ?_ | (refine awp_cond (b := _) (by simp only [go_sem, evB, h1, h2, h3, h4]; rfl) (fun hcond => ?_) (fun hcond => ?_)))); all_goals (refine leaves_ok (by first | exact Or.inl rfl | exact Or.inr rfl) (by simp only [go_sem, resAll, resL, packL, vecsOf, freezeAll, freezeL, h1, h2, h3, h4]; rfl) ?_; (first | refine SubR.v ?_ | refine SubR.tup ?_); ((repeat' (first | exact All2.nil | refine All2.cons ?_ ?_ | exact SubV.one (SubT.same _) | exact SubV.one (SubT.nil _) | refine SubV.agg ?_ | exact SubT.same _ | exact SubT.nil _)); first | done | fail)))

def less (a b c d : Int) : Bool := decide (a < c) || (a == c && decide (b < d))

theorem c26 (a b c d : Int) : Pure Try.prog 26 [bal a b, bal c d] (rBool (less a b c d)) := by
  by_cases h1 : a < c
  · have hb : less a b c d = true := by simp [less, h1]
    rw [hb]
    refine pure_of_body Try.func26 rfl (by simp [Try.f26]) ?_; rw [Try.ntmps26, Try.results26]; intro w0 G0
    ((repeat' (first | refine thenL_n ?_ | refine thenL_r ?_ | refine thenL_x ?_ | refine blockL_n ?_ | refine blockL_r ?_ | refine blockL_x ?_ | refine blockL_y rfl ?_ | refine awp_seq ?_ | refine awp_block ?_ | refine awp_ret ?_ | refine awp_exit ?_ | refine awp_skip ?_ | exact absurd hcond (by decide) | (refine awp_txt ?_; refine runs_to [] (by simp only [go_sem, h1]; rfl) ?_) | (refine awp_draw mixed ?_; refine runs_to [] (by simp only [go_sem, h1]; rfl) ?_) | refine runD_nil ⟨by kernel_rfl, ?_⟩ | refine runD_nil ?_ | (refine awp_cond (b := _) (by simp only [go_sem, evB, h1]; rfl) (fun hcond => ?_) (fun hcond => ?_)))); all_goals (refine leaves_ok (by first | exact Or.inl rfl | exact Or.inr rfl) (by simp only [go_sem, resAll, resL, packL, vecsOf, freezeAll, freezeL, h1]; rfl) ?_; (first | refine SubR.v ?_ | refine SubR.tup ?_); ((repeat' (first | exact All2.nil | refine All2.cons ?_ ?_ | exact SubV.one (SubT.same _) | exact SubV.one (SubT.nil _) | refine SubV.agg ?_ | exact SubT.same _ | exact SubT.nil _)); first | done | fail)))
  by_cases h2 : (a == c) = true
  · have hb : less a b c d = decide (b < d) := by simp only [less, h1, h2]; simp
    rw [hb]
    refine pure_of_body Try.func26 rfl (by simp [Try.f26]) ?_; rw [Try.ntmps26, Try.results26]; intro w0 G0
    ((repeat' (first | refine thenL_n ?_ | refine thenL_r ?_ | refine thenL_x ?_ | refine blockL_n ?_ | refine blockL_r ?_ | refine blockL_x ?_ | refine blockL_y rfl ?_ | refine awp_seq ?_ | refine awp_block ?_ | refine awp_ret ?_ | refine awp_exit ?_ | refine awp_skip ?_ | exact absurd hcond (by decide) | (refine awp_txt ?_; refine runs_to [] (by simp only [go_sem, h1, h2]; rfl) ?_) | (refine awp_draw mixed ?_; refine runs_to [] (by simp only [go_sem, h1, h2]; rfl) ?_) | refine runD_nil ⟨by kernel_rfl, ?_⟩ | refine runD_nil ?_ | (refine awp_cond (b := _) (by simp only [go_sem, evB, h1, h2]; rfl) (fun hcond => ?_) (fun hcond => ?_)))); all_goals (refine leaves_ok (by first | exact Or.inl rfl | exact Or.inr rfl) (by simp only [go_sem, resAll, resL, packL, vecsOf, freezeAll, freezeL, h1, h2]; rfl) ?_; (first | refine SubR.v ?_ | refine SubR.tup ?_); ((repeat' (first | exact All2.nil | refine All2.cons ?_ ?_ | exact SubV.one (SubT.same _) | exact SubV.one (SubT.nil _) | refine SubV.agg ?_ | exact SubT.same _ | exact SubT.nil _)); first | done | fail)))
  have h2 : (a == c) = false := by simpa using h2
  have hb : less a b c d = false := by simp only [less, h1, h2]; simp
  rw [hb]
  refine pure_of_body Try.func26 rfl (by simp [Try.f26]) ?_; rw [Try.ntmps26, Try.results26]; intro w0 G0
  ((repeat' (first | refine thenL_n ?_ | refine thenL_r ?_ | refine thenL_x ?_ | refine blockL_n ?_ | refine blockL_r ?_ | refine blockL_x ?_ | refine blockL_y rfl ?_ | refine awp_seq ?_ | refine awp_block ?_ | refine awp_ret ?_ | refine awp_exit ?_ | refine awp_skip ?_ | exact absurd hcond (by decide) | (refine awp_txt ?_; refine runs_to [] (by simp only [go_sem, h1, h2]; rfl) ?_) | (refine awp_draw mixed ?_; refine runs_to [] (by simp only [go_sem, h1, h2]; rfl) ?_) | refine runD_nil ⟨by kernel_rfl, ?_⟩ | refine runD_nil ?_ | (refine awp_cond (b := _) (by simp only [go_sem, evB, h1, h2]; rfl) (fun hcond => ?_) (fun hcond => ?_)))); all_goals (refine leaves_ok (by first | exact Or.inl rfl | exact Or.inr rfl) (by simp only [go_sem, resAll, resL, packL, vecsOf, freezeAll, freezeL, h1, h2]; rfl) ?_; (first | refine SubR.v ?_ | refine SubR.tup ?_); ((repeat' (first | exact All2.nil | refine All2.cons ?_ ?_ | exact SubV.one (SubT.same _) | exact SubV.one (SubT.nil _) | refine SubV.agg ?_ | exact SubT.same _ | exact SubT.nil _)); first | done | fail)))

theorem c27 (a b c d : Int) : Pure Try.prog 27 [bal a b, bal c d] (rBool (less a b c d)) := by
  by_cases h2 : (a != c) = false
  · have hb : less a b c d = decide (b < d) := by simp at h2; subst h2; simp [less]
    rw [hb]
    refine pure_of_body Try.func27 rfl (by simp [Try.f27]) ?_; rw [Try.ntmps27, Try.results27]; intro w0 G0
    ((repeat' (first | refine thenL_n ?_ | refine thenL_r ?_ | refine thenL_x ?_ | refine blockL_n ?_ | refine blockL_r ?_ | refine blockL_x ?_ | refine blockL_y rfl ?_ | refine awp_seq ?_ | refine awp_block ?_ | refine awp_ret ?_ | refine awp_exit ?_ | refine awp_skip ?_ | exact absurd hcond (by decide) | (refine awp_txt ?_; refine runs_to [] (by simp only [go_sem, h2]; rfl) ?_) | (refine awp_draw mixed ?_; refine runs_to [] (by simp only [go_sem, h2]; rfl) ?_) | refine runD_nil ⟨by kernel_rfl, ?_⟩ | refine runD_nil ?_ | (refine awp_cond (b := _) (by simp only [go_sem, evB, h2]; rfl) (fun hcond => ?_) (fun hcond => ?_)))); all_goals (refine leaves_ok (by first | exact Or.inl rfl | exact Or.inr rfl) (by simp only [go_sem, resAll, resL, packL, vecsOf, freezeAll, freezeL, h2]; rfl) ?_; (first | refine SubR.v ?_ | refine SubR.tup ?_); ((repeat' (first | exact All2.nil | refine All2.cons ?_ ?_ | exact SubV.one (SubT.same _) | exact SubV.one (SubT.nil _) | refine SubV.agg ?_ | exact SubT.same _ | exact SubT.nil _)); first | done | fail)))
  have h2 : (a != c) = true := by simpa using h2
  have hb : less a b c d = decide (a < c) := by simp at h2; simp [less, h2]
  rw [hb]
  refine pure_of_body Try.func27 rfl (by simp [Try.f27]) ?_; rw [Try.ntmps27, Try.results27]; intro w0 G0
  ((repeat' (first | refine thenL_n ?_ | refine thenL_r ?_ | refine thenL_x ?_ | refine blockL_n ?_ | refine blockL_r ?_ | refine blockL_x ?_ | refine blockL_y rfl ?_ | refine awp_seq ?_ | refine awp_block ?_ | refine awp_ret ?_ | refine awp_exit ?_ | refine awp_skip ?_ | exact absurd hcond (by decide) | (refine awp_txt ?_; refine runs_to [] (by simp only [go_sem, h2]; rfl) ?_) | (refine awp_draw mixed ?_; refine runs_to [] (by simp only [go_sem, h2]; rfl) ?_) | refine runD_nil ⟨by kernel_rfl, ?_⟩ | refine runD_nil ?_ | (refine awp_cond (b := _) (by simp only [go_sem, evB, h2]; rfl) (fun hcond => ?_) (fun hcond => ?_)))); all_goals (refine leaves_ok (by first | exact Or.inl rfl | exact Or.inr rfl) (by simp only [go_sem, resAll, resL, packL, vecsOf, freezeAll, freezeL, h2]; rfl) ?_; (first | refine SubR.v ?_ | refine SubR.tup ?_); ((repeat' (first | exact All2.nil | refine All2.cons ?_ ?_ | exact SubV.one (SubT.same _) | exact SubV.one (SubT.nil _) | refine SubV.agg ?_ | exact SubT.same _ | exact SubT.nil _)); first | done | fail)))

theorem c83 (n : Int) : Pure Try.prog 83 [vlit (.int .i64 n)] (rBool (decide (0 ≤ n) && decide (n ≤ 4611686018427387903))) := by
  by_cases h1 : 0 ≤ n
  · simp only [h1, decide_true, Bool.true_and]
    refine pure_of_body Try.func83 rfl (by simp [Try.f83]) ?_; rw [Try.ntmps83, Try.results83]; intro w0 G0
    ((repeat' (first | refine thenL_n ?_ | refine thenL_r ?_ | refine thenL_x ?_ | refine blockL_n ?_ | refine blockL_r ?_ | refine blockL_x ?_ | refine blockL_y rfl ?_ | refine awp_seq ?_ | refine awp_block ?_ | refine awp_ret ?_ | refine awp_exit ?_ | refine awp_skip ?_ | exact absurd hcond (by decide) | (refine awp_txt ?_; refine runs_to [] (by simp only [go_sem, h1]; rfl) ?_) | (refine awp_draw mixed ?_; refine runs_to [] (by simp only [go_sem, h1]; rfl) ?_) | refine runD_nil ⟨by kernel_rfl, ?_⟩ | refine runD_nil ?_ | (refine awp_cond (b := _) (by simp only [go_sem, evB, h1]; rfl) (fun hcond => ?_) (fun hcond => ?_)))); all_goals (refine leaves_ok (by first | exact Or.inl rfl | exact Or.inr rfl) (by simp only [go_sem, resAll, resL, packL, vecsOf, freezeAll, freezeL, h1]; rfl) ?_; (first | refine SubR.v ?_ | refine SubR.tup ?_); ((repeat' (first | exact All2.nil | refine All2.cons ?_ ?_ | exact SubV.one (SubT.same _) | exact SubV.one (SubT.nil _) | refine SubV.agg ?_ | exact SubT.same _ | exact SubT.nil _)); first | done | fail)))
  simp only [h1, decide_false, Bool.false_and]
  refine pure_of_body Try.func83 rfl (by simp [Try.f83]) ?_; rw [Try.ntmps83, Try.results83]; intro w0 G0
  ((repeat' (first | refine thenL_n ?_ | refine thenL_r ?_ | refine thenL_x ?_ | refine blockL_n ?_ | refine blockL_r ?_ | refine blockL_x ?_ | refine blockL_y rfl ?_ | refine awp_seq ?_ | refine awp_block ?_ | refine awp_ret ?_ | refine awp_exit ?_ | refine awp_skip ?_ | exact absurd hcond (by decide) | (refine awp_txt ?_; refine runs_to [] (by simp only [go_sem, h1]; rfl) ?_) | (refine awp_draw mixed ?_; refine runs_to [] (by simp only [go_sem, h1]; rfl) ?_) | refine runD_nil ⟨by kernel_rfl, ?_⟩ | refine runD_nil ?_ | (refine awp_cond (b := _) (by simp only [go_sem, evB, h1]; rfl) (fun hcond => ?_) (fun hcond => ?_)))); all_goals (refine leaves_ok (by first | exact Or.inl rfl | exact Or.inr rfl) (by simp only [go_sem, resAll, resL, packL, vecsOf, freezeAll, freezeL, h1]; rfl) ?_; (first | refine SubR.v ?_ | refine SubR.tup ?_); ((repeat' (first | exact All2.nil | refine All2.cons ?_ ?_ | exact SubV.one (SubT.same _) | exact SubV.one (SubT.nil _) | refine SubV.agg ?_ | exact SubT.same _ | exact SubT.nil _)); first | done | fail)))

def told (e : Int) (ok : Bool) (c : Int) : Bool := if ok then e == 0 else e == c

theorem c23 (e : Int) (ok : Bool) (c : Int) : Pure Try.prog 23 [vlit (.int .i64 e), vlit (.bool ok), vlit (.int .i64 c)] (rBool (told e ok c)) := by
  cases ok with
  | false =>
    have hb : told e false c = (e == c) := by simp [told]
    rw [hb]
    refine pure_of_body Try.func23 rfl (by simp [Try.f23]) ?_; rw [Try.ntmps23, Try.results23]; intro w0 G0
    ((repeat' (first | refine thenL_n ?_ | refine thenL_r ?_ | refine thenL_x ?_ | refine blockL_n ?_ | refine blockL_r ?_ | refine blockL_x ?_ | refine blockL_y rfl ?_ | refine awp_seq ?_ | refine awp_block ?_ | refine awp_ret ?_ | refine awp_exit ?_ | refine awp_skip ?_ | exact absurd hcond (by decide) | (refine awp_txt ?_; refine runs_to [] (by simp only [go_sem]; rfl) ?_) | (refine awp_draw mixed ?_; refine runs_to [] (by simp only [go_sem]; rfl) ?_) | refine runD_nil ⟨by kernel_rfl, ?_⟩ | refine runD_nil ?_ | (refine awp_cond (b := _) (by simp only [go_sem, evB]; rfl) (fun hcond => ?_) (fun hcond => ?_)))); all_goals (refine leaves_ok (by first | exact Or.inl rfl | exact Or.inr rfl) (by simp only [go_sem, resAll, resL, packL, vecsOf, freezeAll, freezeL]; rfl) ?_; (first | refine SubR.v ?_ | refine SubR.tup ?_); ((repeat' (first | exact All2.nil | refine All2.cons ?_ ?_ | exact SubV.one (SubT.same _) | exact SubV.one (SubT.nil _) | refine SubV.agg ?_ | exact SubT.same _ | exact SubT.nil _)); first | done | fail)))
  | true =>
    have hb : told e true c = (e == 0) := by simp [told]
    rw [hb]
    by_cases h1 : (e == 0) = true
    · rw [h1]
      refine pure_of_body Try.func23 rfl (by simp [Try.f23]) ?_; rw [Try.ntmps23, Try.results23]; intro w0 G0
      ((repeat' (first | refine thenL_n ?_ | refine thenL_r ?_ | refine thenL_x ?_ | refine blockL_n ?_ | refine blockL_r ?_ | refine blockL_x ?_ | refine blockL_y rfl ?_ | refine awp_seq ?_ | refine awp_block ?_ | refine awp_ret ?_ | refine awp_exit ?_ | refine awp_skip ?_ | exact absurd hcond (by decide) | (refine awp_txt ?_; refine runs_to [] (by simp only [go_sem, h1]; rfl) ?_) | (refine awp_draw mixed ?_; refine runs_to [] (by simp only [go_sem, h1]; rfl) ?_) | refine runD_nil ⟨by kernel_rfl, ?_⟩ | refine runD_nil ?_ | (refine awp_cond (b := _) (by simp only [go_sem, evB, h1]; rfl) (fun hcond => ?_) (fun hcond => ?_)))); all_goals (refine leaves_ok (by first | exact Or.inl rfl | exact Or.inr rfl) (by simp only [go_sem, resAll, resL, packL, vecsOf, freezeAll, freezeL, h1]; rfl) ?_; (first | refine SubR.v ?_ | refine SubR.tup ?_); ((repeat' (first | exact All2.nil | refine All2.cons ?_ ?_ | exact SubV.one (SubT.same _) | exact SubV.one (SubT.nil _) | refine SubV.agg ?_ | exact SubT.same _ | exact SubT.nil _)); first | done | fail)))
    · have h1 : (e == 0) = false := by simpa using h1
      rw [h1]
      refine pure_of_body Try.func23 rfl (by simp [Try.f23]) ?_; rw [Try.ntmps23, Try.results23]; intro w0 G0
      ((repeat' (first | refine thenL_n ?_ | refine thenL_r ?_ | refine thenL_x ?_ | refine blockL_n ?_ | refine blockL_r ?_ | refine blockL_x ?_ | refine blockL_y rfl ?_ | refine awp_seq ?_ | refine awp_block ?_ | refine awp_ret ?_ | refine awp_exit ?_ | refine awp_skip ?_ | exact absurd hcond (by decide) | (refine awp_txt ?_; refine runs_to [] (by simp only [go_sem, h1]; rfl) ?_) | (refine awp_draw mixed ?_; refine runs_to [] (by simp only [go_sem, h1]; rfl) ?_) | refine runD_nil ⟨by kernel_rfl, ?_⟩ | refine runD_nil ?_ | (refine awp_cond (b := _) (by simp only [go_sem, evB, h1]; rfl) (fun hcond => ?_) (fun hcond => ?_)))); all_goals (refine leaves_ok (by first | exact Or.inl rfl | exact Or.inr rfl) (by simp only [go_sem, resAll, resL, packL, vecsOf, freezeAll, freezeL, h1]; rfl) ?_; (first | refine SubR.v ?_ | refine SubR.tup ?_); ((repeat' (first | exact All2.nil | refine All2.cons ?_ ?_ | exact SubV.one (SubT.same _) | exact SubV.one (SubT.nil _) | refine SubV.agg ?_ | exact SubT.same _ | exact SubT.nil _)); first | done | fail)))
end Go.Proofs.Ytbohgpdpglfepaa
