import Derived.Test.YtbohgpdpglfepaaT12
import Derived.Test.YtbohgpdpglfepaaA24
set_option maxHeartbeats 4000000
set_option maxRecDepth 10000
set_option linter.unusedVariables false
set_option linter.unusedSimpArgs false
namespace Go.Proofs.Ytbohgpdpglfepaa
open Go.AM Go.RowKit
attribute [local irreducible] AWP thenL blockL AM.Leaves LeavesO RunD
attribute [local go_sem] runs stepR actF inF frzA frzW lastW act act1 actPick actNil actBin
  actUn actConv actExtract actFieldAddr actField actAlloc keysOf actBox actLoad treesOf actStore actIndex
  actLen actMx srcL actAppend actMake actBuild actBuildSlice boundL actSlice actCall actEqS isStruct
  isSlice actText actCopy litsOf kindsOK fieldsPlain eqAll eqop dstB dstN boolS litB
  litV sv binv unv lits takeC cellsR trees cellsW mxv repl parts
  fillAt fillRows V1.cs mkV ev evr AM.look put del applyL delD wrD
  undefS SV.to V1.to At.to keysL notIn freshKey PV.up PR.up entry entryV evp
  isAt actPtrNil capsL actFunc sameV sameVs pureCtx doc mkVar AM.Loc.key Cont.keys SV.keys
  V1.keys At.keys Cont.sub SV.sub V1.sub At.sub guardR argsL callR Nat.blt_eq Nat.blt Nat.ble
  Nat.beq_eq_true_eq beq_self_eq_true Array.toList List.map List.append_eq List.nil_append List.cons_append List.append_nil List.append_assoc Bool.and_eq_true decide_true decide_false
  decide_eq_true_eq Bool.not_true Bool.not_false reduceCtorEq if_true if_false ite_true ite_false reduceIte AM.Loc.slot.injEq AM.Loc.cell.injEq AM.Loc.vec.injEq
  List.getElem?_cons_zero List.getElem?_cons_succ List.getElem?_nil Option.map_some Option.map_none Option.toList List.flatMap_nil List.flatMap_cons Bool.and_true Bool.true_and Bool.and_false Bool.false_and
  Bool.true_eq_false Bool.false_eq_true Nat.reduceBEq Nat.reduceEqDiff bool_beq_tt bool_beq_ff bool_beq_tf bool_beq_ft List.length_cons List.length_nil List.drop List.take
  List.drop_zero List.take_zero List.all_cons List.all_nil Value.oneCell' Nat.zero_add Nat.reduceAdd Nat.reduceMul Nat.reduceSub Nat.reduceLT Nat.reduceLeDiff Int.reduceLT
  Int.reduceLE Int.reduceEq Int.reduceBEq Int.reduceBNe Int.reduceAdd Int.reduceSub Int.reduceMul Int.reduceNeg Int.reduceToNat Nat.succ_ne_zero List.replicate and_true
  true_and and_false false_and and_self ge_iff_le gt_iff_lt bne_self_eq_false List.zip_cons_cons List.zip_nil_left List.zip List.zipWith Int.natCast_nonneg
  Int.toNat_natCast List.getElem?_map List.length_map sT sI sB sR sP rV AllIn Int.toNat_zero Int.ofNat_zero
  Int.natCast_zero Nat.le_refl List.mapM_cons List.mapM_nil Option.bind_eq_bind Option.bind_some Option.pure_def List.set_cons_zero List.set_cons_succ List.length_set tt2 tt3
  tt4 tt5 tt9 tt12 tt21 tt22 tt23 tt24 tt25 tt36 tt37 tt43
  tt44 tt51 tt52 tt53 tt59 tt67 tt68 tt69 tt74 tt75 tt76 tt77
  tt78 tt79 tt89 tt92 tt95 tt96 tt97 tt98 tt99 tt102 tt103 tt106
  tt107 tt108 tt114 tt115 tt116 tt117 tt118 tt119 tt120 tt122 tt124 tt125
  tt126 tt127 tt130 tt131 tt132 tt133 tt134 tt135 tt137 tt138 tt139 tt147
  tt148 tt149 tt159 tt164 tt165 tt167 tt168 tt169 tt170 tt171 tt190 tt191
  tt194 tt200 tt208 tt212
def vBy (xs : List Int) : T := .sl 1 (xs.map fun n => [.lit (.int .u8 n)])
def lI (n : Int) : At := .t (.lit (.int .i64 n))
def lB (b : Bool) : At := .t (.lit (.bool b))
theorem vecOK7 {d : List Int} (h : vecOK d = true) : 1 ≤ d.length ∧ d.length ≤ 7 := by
  simp only [vecOK, Bool.and_eq_true, decide_eq_true_eq] at h; exact h.1
attribute [local go_sem] vlit bal rInt rBool vInts pInts vvInts vBy

theorem c115 (xs : List Int) (hl : xs.length ≤ 140737488355328) : Pure Try.prog 115 [.one (vBy xs)] (.v (.one (vBy xs))) := by
  have hl2 : xs.length * 1 ≤ 140737488355328 := by omega
  refine pure_of_slice Try.func115 rfl (by simp [Try.f115]) (fun h => ?_) ?_
  · have h0 : xs = [] := by simpa using h
    subst h0
    rw [Try.ntmps115, Try.results115]
    intro w0 G0
    ((repeat' (first | refine thenL_n ?_ | refine thenL_r ?_ | refine thenL_x ?_ | refine blockL_n ?_ | refine blockL_r ?_ | refine blockL_x ?_ | refine blockL_y rfl ?_ | refine awp_seq ?_ | refine awp_block ?_ | refine awp_ret ?_ | refine awp_exit ?_ | refine awp_skip ?_ | exact absurd hcond (by decide) | (first | (refine awp_txt ?_; refine runs_to [] (by simp only [go_sem, Option.isNone, Bool.or_self, Bool.or_true, Bool.or_false]; rfl) ?_) | (refine awp_draw mixed ?_; refine runs_to [] (by simp only [go_sem, Option.isNone, Bool.or_self, Bool.or_true, Bool.or_false]; rfl) ?_)) | refine runD_nil ⟨by kernel_rfl, ?_⟩ | refine runD_nil ?_ | (refine awp_cond (b := _) (by simp only [go_sem, evB, Option.isNone, Bool.or_self, Bool.or_true, Bool.or_false]; rfl) (fun hcond => ?_) (fun hcond => ?_)))); all_goals (refine leaves_ok (by first | exact Or.inl rfl | exact Or.inr rfl) (by simp only [go_sem, resAll, resL, packL, vecsOf, freezeAll, freezeL, Option.isNone, Bool.or_self, Bool.or_true, Bool.or_false]; rfl) ?_; (first | refine SubR.v ?_ | refine SubR.tup ?_); ((repeat' (first | exact All2.nil | refine All2.cons ?_ ?_ | exact SubV.one (SubT.same _) | exact SubV.one (SubT.nil _) | refine SubV.agg ?_ | exact SubT.same _ | exact SubT.nil _)); first | done | fail)))
  rw [Try.ntmps115, Try.results115]
  intro w0 G0 ad n cp hv
  refine awp_seq ?_
  refine awp_txt ?_
  refine runs_to [] (by simp only [go_sem]; rfl) ?_
  refine runD_nil ?_
  refine thenL_n ?_
  refine awp_seq ?_
  refine awp_seq ?_
  refine awp_txt ?_
  refine runs_to [] (by simp only [go_sem, Option.isNone, Bool.or_true, Bool.or_false]; rfl) ?_
  refine runD_nil ?_
  refine thenL_n ?_
  (refine awp_cond (b := _) (by simp only [go_sem, evB]; rfl) (fun hcond => ?_) (fun hcond => ?_))
  · exact absurd hcond (by decide)
  refine awp_skip ?_
  refine thenL_n ?_
  refine awp_imp (Imp.lift 0 hv rfl) ?_
  ((repeat' (first | refine thenL_n ?_ | refine thenL_r ?_ | refine thenL_x ?_ | refine blockL_n ?_ | refine blockL_r ?_ | refine blockL_x ?_ | refine blockL_y rfl ?_ | refine awp_seq ?_ | refine awp_block ?_ | refine awp_ret ?_ | refine awp_exit ?_ | refine awp_skip ?_ | exact absurd hcond (by decide) | (first | (refine awp_txt ?_; refine runs_to [] (by simp only [go_sem, hl, hl2]; rfl) ?_) | (refine awp_draw mixed ?_; refine runs_to [] (by simp only [go_sem, hl, hl2]; rfl) ?_)) | refine runD_nil ⟨by kernel_rfl, ?_⟩ | refine runD_nil ?_ | (refine awp_cond (b := _) (by simp only [go_sem, evB, hl, hl2]; rfl) (fun hcond => ?_) (fun hcond => ?_)))); all_goals (refine leaves_ok (by first | exact Or.inl rfl | exact Or.inr rfl) (by simp only [go_sem, resAll, resL, packL, vecsOf, freezeAll, freezeL, hl, hl2]; rfl) ?_; (first | refine SubR.v ?_ | refine SubR.tup ?_); ((repeat' (first | exact All2.nil | refine All2.cons ?_ ?_ | exact SubV.one (SubT.same _) | exact SubV.one (SubT.nil _) | refine SubV.agg ?_ | exact SubT.same _ | exact SubT.nil _)); first | done | fail)))

def vvBy (bs : List (List Int)) : T := .sl 1 (bs.map fun b => [vBy b])
abbrev u8T : Int → List T := fun n => [T.lit (.int .u8 n)]
attribute [local go_sem] vvBy

theorem c43 (xs : List Int) : Pure Try.prog 43 [.one (vBy xs), .one (vBy xs)] (rBool true) := by
  have hby : bytesOf (List.map (fun n => [T.lit (.int .u8 n)]) xs) = some xs := bytesOf_rows xs
  refine pure_of_body Try.func43 rfl (by simp [Try.f43]) ?_; rw [Try.ntmps43, Try.results43]; intro w0 G0
  ((repeat' (first | refine thenL_n ?_ | refine thenL_r ?_ | refine thenL_x ?_ | refine blockL_n ?_ | refine blockL_r ?_ | refine blockL_x ?_ | refine blockL_y rfl ?_ | refine awp_seq ?_ | refine awp_block ?_ | refine awp_ret ?_ | refine awp_exit ?_ | refine awp_skip ?_ | exact absurd hcond (by decide) | (first | (refine awp_txt ?_; refine runs_to [] (by simp only [go_sem, hby]; rfl) ?_) | (refine awp_draw mixed ?_; refine runs_to [] (by simp only [go_sem, hby]; rfl) ?_)) | refine runD_nil ⟨by kernel_rfl, ?_⟩ | refine runD_nil ?_ | (refine awp_cond (b := _) (by simp only [go_sem, evB, hby]; rfl) (fun hcond => ?_) (fun hcond => ?_)))); all_goals (refine leaves_ok (by first | exact Or.inl rfl | exact Or.inr rfl) (by simp only [go_sem, resAll, resL, packL, vecsOf, freezeAll, freezeL, hby]; rfl) ?_; (first | refine SubR.v ?_ | refine SubR.tup ?_); ((repeat' (first | exact All2.nil | refine All2.cons ?_ ?_ | exact SubV.one (SubT.same _) | exact SubV.one (SubT.nil _) | refine SubV.agg ?_ | exact SubT.same _ | exact SubT.nil _)); first | done | fail)))

theorem o90 (bs : List (List Int)) (hl : bs.flatten.length ≤ 140737488355328) (hn : bs.length ≤ 4611686018427387903) : Own Try.prog 90 [.one (vvBy bs)] (.v (.one (.row 0))) 1 5 (bs.flatten.map fun n => [.lit (.int .u8 n)]) := by
  refine own_of_body Try.func90 rfl (by simp [Try.f90]) ?_; rw [Try.ntmps90, Try.results90]; intro w0 G0
  (repeat' (first | refine thenL_n ?_ | refine thenL_r ?_ | refine thenL_x ?_ | refine blockL_n ?_ | refine blockL_r ?_ | refine blockL_x ?_ | refine blockL_y rfl ?_ | refine awp_seq ?_ | refine awp_block ?_ | refine awp_ret ?_ | refine awp_exit ?_ | refine awp_skip ?_ | exact absurd hcond (by decide) | (first | (refine awp_txt ?_; refine runs_to [] (by simp only [go_sem]; rfl) ?_) | (refine awp_draw mixed ?_; refine runs_to [] (by simp only [go_sem]; rfl) ?_)) | refine runD_nil ⟨by kernel_rfl, ?_⟩ | refine runD_nil ?_ | (refine awp_cond (b := _) (by simp only [go_sem, evB]; rfl) (fun hcond => ?_) (fun hcond => ?_))))
  refine awp_imp (Imp.takeE 5 40 (by simp only [go_sem, fixL, Cont.fix, SV.fix, V1.fix, At.fix, cellsT, renL, Loc.ren, Cont.ren, SV.ren, V1.ren, At.ren, freezeL]) (by simp only [go_sem, fixL, Cont.fix, SV.fix, V1.fix, At.fix, cellsT, renL, Loc.ren, Cont.ren, SV.ren, V1.ren, At.ren, freezeL]; rfl) (by decide) (by simp only [go_sem, fixL, Cont.fix, SV.fix, V1.fix, At.fix, cellsT, renL, Loc.ren, Cont.ren, SV.ren, V1.ren, At.ren, freezeL]; rfl)) ?_
  refine awp_loop (fun i : Nat => [(.slot 0, sT (vvBy bs)), (.slot 3, sR 40), (.vec 40, .r 1 5 ((bs.take i).flatten.map fun n => [.lit (.int .u8 n)])), (.slot 4, sI i)]) (fun i => i ≤ bs.length) (fun i => bs.length - i) 0 (Nat.zero_le _) (by refine Imp.of_in ?_; simp only [go_sem, List.flatten_nil, List.map_nil]) ?_
  intro i hi
  by_cases hlt : (i : Int) < bs.length
  · have hil : i < bs.length := by omega
    have hx : bs[i]? = some bs[i] := List.getElem?_eq_getElem hil
    have hts : bs.take (i + 1) = bs.take i ++ [bs[i]] := List.take_succ_eq_append_getElem hil
    have hle : (bs.take (i + 1)).flatten.length ≤ bs.flatten.length := by
      have h2 := congrArg List.flatten (List.take_append_drop (i + 1) bs)
      rw [List.flatten_append] at h2
      rw [← h2, List.length_append]; omega
    generalize bs[i] = b at hx hts
    have hfl : (bs.take (i + 1)).flatten = (bs.take i).flatten ++ b := by rw [hts]; simp
    rw [hfl, List.length_append] at hle
    have hw := up i (by omega)
    have hc1 : (bs.take i).flatten.length + b.length ≤ 140737488355328 := by omega
    have hc2 : ((bs.take i).flatten.length + b.length) * 1 ≤ 140737488355328 := by omega
    have hmap : List.map (fun n => [T.lit (.int .u8 n)]) (bs.take (i + 1)).flatten = List.map (fun n => [T.lit (.int .u8 n)]) (bs.take i).flatten ++ List.map (fun n => [T.lit (.int .u8 n)]) b := by rw [hfl]; simp
    (repeat' (first | refine thenL_n ?_ | refine thenL_r ?_ | refine thenL_x ?_ | refine blockL_n ?_ | refine blockL_r ?_ | refine blockL_x ?_ | refine blockL_y rfl ?_ | refine awp_seq ?_ | refine awp_block ?_ | refine awp_ret ?_ | refine awp_exit ?_ | refine awp_skip ?_ | exact absurd hcond (by decide) | (first | (refine awp_txt ?_; refine runs_to [] (by simp only [go_sem, hlt, hx, hw, hc1, hc2]; rfl) ?_) | (refine awp_draw mixed ?_; refine runs_to [] (by simp only [go_sem, hlt, hx, hw, hc1, hc2]; rfl) ?_)) | refine runD_nil ⟨by kernel_rfl, ?_⟩ | refine runD_nil ?_ | (refine awp_cond (b := _) (by simp only [go_sem, evB, hlt, hx, hw, hc1, hc2]; rfl) (fun hcond => ?_) (fun hcond => ?_))))
    refine ⟨i + 1, by omega, by omega, (by refine Imp.back 17 40 (by simp only [go_sem, renL, Loc.ren, Cont.ren, SV.ren, V1.ren, At.ren,  hmap]) (by simp only [go_sem, renL, Loc.ren, Cont.ren, SV.ren, V1.ren, At.ren,  hmap]) (by simp only [go_sem, renL, Loc.ren, Cont.ren, SV.ren, V1.ren, At.ren,  hmap]) (by decide) (by decide) ?_; refine Imp.of_in ?_; simp only [go_sem, renL, Loc.ren, Cont.ren, SV.ren, V1.ren, At.ren,  hmap])⟩
  · have hta : bs.take i = bs := by rw [show i = bs.length by omega, List.take_length]
    (repeat' (first | refine thenL_n ?_ | refine thenL_r ?_ | refine thenL_x ?_ | refine blockL_n ?_ | refine blockL_r ?_ | refine blockL_x ?_ | refine blockL_y rfl ?_ | refine awp_seq ?_ | refine awp_block ?_ | refine awp_ret ?_ | refine awp_exit ?_ | refine awp_skip ?_ | exact absurd hcond (by decide) | (first | (refine awp_txt ?_; refine runs_to [] (by simp only [go_sem, hlt]; rfl) ?_) | (refine awp_draw mixed ?_; refine runs_to [] (by simp only [go_sem, hlt]; rfl) ?_)) | refine runD_nil ⟨by kernel_rfl, ?_⟩ | refine runD_nil ?_ | (refine awp_cond (b := _) (by simp only [go_sem, evB, hlt]; rfl) (fun hcond => ?_) (fun hcond => ?_))))
    refine leavesO_ok 40 (by first | exact Or.inl rfl | exact Or.inr rfl) (by simp only [go_sem,  hta] <;> rfl) (by simp only [go_sem, resAll, resL,  hta]; rfl) (by simp only [go_sem, packL, SV.to, V1.to, At.to,  hta])

theorem c90 (bs : List (List Int)) (hl : bs.flatten.length ≤ 140737488355328) (hn : bs.length ≤ 4611686018427387903) : Pure Try.prog 90 [.one (vvBy bs)] (.v (.one (vBy bs.flatten))) :=
  pure_of_own (o90 bs hl hn) (.v (.one (.same _)))

theorem c45 (b : List Int) (hl : b.length ≤ 140737488355328) : Pure Try.prog 45 [.one (vBy b)] (.v (.one (vBy b))) := by
  have kw90 : Pure Try.prog 90 [.one (vvBy [b])] (.v (.one (vBy b))) := by
    have := c90 [b] (by simpa using hl) (by simp)
    simpa using this
  refine pure_of_body Try.func45 rfl (by simp [Try.f45]) ?_; rw [Try.ntmps45, Try.results45]; intro w0 G0
  ((repeat' (first | refine thenL_n ?_ | refine thenL_r ?_ | refine thenL_x ?_ | refine blockL_n ?_ | refine blockL_r ?_ | refine blockL_x ?_ | refine blockL_y rfl ?_ | refine awp_seq ?_ | refine awp_block ?_ | refine awp_ret ?_ | refine awp_exit ?_ | refine awp_skip ?_ | exact absurd hcond (by decide) | (first | (refine awp_txt ?_; refine runs_to [4] (by simp only [go_sem]; rfl) ?_) | (refine awp_draw mixed ?_; refine runs_to [4] (by simp only [go_sem]; rfl) ?_)) | refine runD_nil ⟨by kernel_rfl, ?_⟩ | refine runD_nil ?_ | (refine runD_call (kw90) cb90 (by rfl) (by simp only [go_sem]; rfl) (by ((repeat' (first | exact All2.nil | refine All2.cons ?_ ?_ | exact SubV.one (SubT.same _) | exact SubV.one (SubT.nil _) | refine SubV.agg ?_ | exact SubT.same _ | exact SubT.nil _)); first | done | fail)) ?_; refine runs_to [4] (by simp only [go_sem]; rfl) ?_) | (refine awp_cond (b := _) (by simp only [go_sem, evB]; rfl) (fun hcond => ?_) (fun hcond => ?_)))); all_goals (refine leaves_ok (by first | exact Or.inl rfl | exact Or.inr rfl) (by simp only [go_sem, resAll, resL, packL, vecsOf, freezeAll, freezeL]; rfl) ?_; (first | refine SubR.v ?_ | refine SubR.tup ?_); ((repeat' (first | exact All2.nil | refine All2.cons ?_ ?_ | exact SubV.one (SubT.same _) | exact SubV.one (SubT.nil _) | refine SubV.agg ?_ | exact SubT.same _ | exact SubT.nil _)); first | done | fail)))
theorem o45 (b : List Int) (hl : b.length ≤ 140737488355328) : Own Try.prog 45 [.one (vBy b)] (.v (.one (.row 0))) 1 5 (b.map fun n => [.lit (.int .u8 n)]) := by
  have ow90 : Own Try.prog 90 [.one (vvBy [b])] (.v (.one (.row 0))) 1 5 (b.map fun n => [.lit (.int .u8 n)]) := by
    have := o90 [b] (by simpa using hl) (by simp)
    simpa using this
  refine own_of_body Try.func45 rfl (by simp [Try.f45]) ?_; rw [Try.ntmps45, Try.results45]; intro w0 G0
  (repeat' (first | refine thenL_n ?_ | refine thenL_r ?_ | refine thenL_x ?_ | refine blockL_n ?_ | refine blockL_r ?_ | refine blockL_x ?_ | refine blockL_y rfl ?_ | refine awp_seq ?_ | refine awp_block ?_ | refine awp_ret ?_ | refine awp_exit ?_ | refine awp_skip ?_ | exact absurd hcond (by decide) | (first | (refine awp_txt ?_; refine runs_to [4] (by simp only [go_sem]; rfl) ?_) | (refine awp_draw mixed ?_; refine runs_to [4] (by simp only [go_sem]; rfl) ?_)) | refine runD_nil ⟨by kernel_rfl, ?_⟩ | refine runD_nil ?_ | (refine runD_own (ow90) cb90 (by rfl) (by simp only [go_sem]; rfl) (by simp only [go_sem]; rfl) (by ((repeat' (first | exact All2.nil | refine All2.cons ?_ ?_ | exact SubV.one (SubT.same _) | exact SubV.one (SubT.nil _) | refine SubV.agg ?_ | exact SubT.same _ | exact SubT.nil _)); first | done | fail)) ?_; refine runs_to [4] (by simp only [go_sem]; rfl) ?_) | (refine awp_cond (b := _) (by simp only [go_sem, evB]; rfl) (fun hcond => ?_) (fun hcond => ?_))))
  refine leavesO_ok 5 (by first | exact Or.inl rfl | exact Or.inr rfl) (by simp only [go_sem] <;> rfl) (by simp only [go_sem, resAll, resL]; rfl) (by simp only [go_sem, packL, SV.to, V1.to, At.to])

end Go.Proofs.Ytbohgpdpglfepaa
