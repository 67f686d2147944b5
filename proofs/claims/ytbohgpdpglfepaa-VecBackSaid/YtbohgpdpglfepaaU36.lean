import Derived.Test.YtbohgpdpglfepaaU35
set_option maxHeartbeats 4000000
set_option maxRecDepth 10000
set_option linter.unusedVariables false
set_option linter.unusedSimpArgs false
namespace Go.Proofs.Ytbohgpdpglfepaa
open Go.AM Go.RowKit
attribute [local irreducible] AWP thenL blockL AM.Leaves LeavesO RunD
attribute [local go_sem] runs stepR actF inF frzA frzW lastW act act1 actPick actNil actBin
  actUn actConv actExtract actFieldAddr actField actAlloc keysOf actBox actLoad treesOf actStore actIndex
  actLen actMx srcL actAppend actMake actBuild actBuildSlice boundL actSlice actCall actEqS isStruct
  isSlice actText actCopy litsOf kindsOK fieldsPlain eqAll eqop dstB dstN boolS litB
  litV sv binv unv lits takeC cellsR trees cellsW mxv repl parts
  fillAt fillRows V1.cs mkV ev evr AM.look put del applyL delD wrD
  undefS SV.to V1.to At.to keysL notIn freshKey PV.up PR.up entry entryV evp
  isAt actPtrNil capsL actFunc sameV sameVs pureCtx doc mkVar AM.Loc.key Cont.keys SV.keys
  V1.keys At.keys Cont.sub SV.sub V1.sub At.sub guardR argsL callR Nat.blt_eq Nat.blt Nat.ble
  Nat.beq_eq_true_eq beq_self_eq_true Array.toList List.map List.append_eq List.nil_append List.cons_append List.append_nil List.append_assoc Bool.and_eq_true decide_true decide_false
  decide_eq_true_eq Bool.not_true Bool.not_false reduceCtorEq if_true if_false ite_true ite_false reduceIte AM.Loc.slot.injEq AM.Loc.cell.injEq AM.Loc.vec.injEq
  List.getElem?_cons_zero List.getElem?_cons_succ List.getElem?_nil Option.map_some Option.map_none Option.toList List.flatMap_nil List.flatMap_cons Bool.and_true Bool.true_and Bool.and_false Bool.false_and
  Bool.true_eq_false Bool.false_eq_true Nat.reduceBEq Nat.reduceEqDiff bool_beq_tt bool_beq_ff bool_beq_tf bool_beq_ft List.length_cons List.length_nil List.drop List.take
  List.drop_zero List.take_zero List.all_cons List.all_nil Value.oneCell' Nat.zero_add Nat.reduceAdd Nat.reduceMul Nat.reduceSub Nat.reduceLT Nat.reduceLeDiff Int.reduceLT
  Int.reduceLE Int.reduceEq Int.reduceBEq Int.reduceBNe Int.reduceAdd Int.reduceSub Int.reduceMul Int.reduceNeg Int.reduceToNat Nat.succ_ne_zero List.replicate and_true
  true_and and_false false_and and_self ge_iff_le gt_iff_lt bne_self_eq_false List.zip_cons_cons List.zip_nil_left List.zip List.zipWith Int.natCast_nonneg
  Int.toNat_natCast List.getElem?_map List.length_map sT sI sB sR sP rV AllIn Int.toNat_zero Int.ofNat_zero
  Int.natCast_zero Nat.le_refl List.mapM_cons List.mapM_nil Option.bind_eq_bind Option.bind_some Option.pure_def List.set_cons_zero List.set_cons_succ List.length_set tt2 tt3
  tt4 tt5 tt9 tt12 tt21 tt22 tt23 tt24 tt25 tt36 tt37 tt43
  tt44 tt51 tt52 tt53 tt59 tt67 tt68 tt69 tt74 tt75 tt76 tt77
  tt78 tt79 tt89 tt92 tt95 tt96 tt97 tt98 tt99 tt102 tt103 tt106
  tt107 tt108 tt114 tt115 tt116 tt117 tt118 tt119 tt120 tt122 tt124 tt125
  tt126 tt127 tt130 tt131 tt132 tt133 tt134 tt135 tt137 tt138 tt139 tt147
  tt148 tt149 tt159 tt164 tt165 tt167 tt168 tt169 tt170 tt171 tt190 tt191
  tt194 tt200 tt208 tt212
attribute [local go_sem] vlit bal rInt rBool vInts pInts vvInts vBy vvBy lI lB byV wK dR

theorem c41a (b1 b2 : Int) (v : List Int) (h : balOK b1 b2 = false) : Pure Try.prog 41 [bal b1 b2, pInts v] (.tup [vlit (.slice none 0 0), vlit (.int .i64 110)]) := by
  refine pure_of_body Try.func41 rfl (by simp [Try.f41]) ?_; rw [Try.ntmps41, Try.results41]; intro w0 G0
  ((repeat' (first | refine thenL_n ?_ | refine thenL_r ?_ | refine thenL_x ?_ | refine blockL_n ?_ | refine blockL_r ?_ | refine blockL_x ?_ | refine blockL_y rfl ?_ | refine awp_seq ?_ | refine awp_block ?_ | refine awp_ret ?_ | refine awp_exit ?_ | refine awp_skip ?_ | exact absurd hcond (by decide) | (first | (refine awp_txt ?_; refine runs_to [] (by simp only [go_sem, h]; rfl) ?_) | (refine awp_draw mixed ?_; refine runs_to [] (by simp only [go_sem, h]; rfl) ?_)) | refine runD_nil ⟨by kernel_rfl, ?_⟩ | refine runD_nil ?_ | (refine runD_call (c24 _ _) cb24 (by rfl) (by simp only [go_sem, h]; rfl) (by ((repeat' (first | exact All2.nil | refine All2.cons ?_ ?_ | exact SubV.one (SubT.same _) | exact SubV.one (SubT.nil _) | refine SubV.agg ?_ | exact SubT.same _ | exact SubT.nil _)); first | done | fail)) ?_; refine runs_to [] (by simp only [go_sem, h]; rfl) ?_) | (refine awp_cond (b := _) (by simp only [go_sem, evB, h]; rfl) (fun hcond => ?_) (fun hcond => ?_)))); all_goals (refine leaves_ok (by first | exact Or.inl rfl | exact Or.inr rfl) (by simp only [go_sem, resAll, resL, packL, vecsOf, freezeAll, freezeL, h]; rfl) ?_; (first | refine SubR.v ?_ | refine SubR.tup ?_); ((repeat' (first | exact All2.nil | refine All2.cons ?_ ?_ | exact SubV.one (SubT.same _) | exact SubV.one (SubT.nil _) | refine SubV.agg ?_ | exact SubT.same _ | exact SubT.nil _)); first | done | fail)))
theorem c41b (b1 b2 : Int) (v : List Int) (h : balOK b1 b2 = true) (hv : vecOK v = false) : Pure Try.prog 41 [bal b1 b2, pInts v] (.tup [vlit (.slice none 0 0), vlit (.int .i64 90)]) := by
  refine pure_of_body Try.func41 rfl (by simp [Try.f41]) ?_; rw [Try.ntmps41, Try.results41]; intro w0 G0
  ((repeat' (first | refine thenL_n ?_ | refine thenL_r ?_ | refine thenL_x ?_ | refine blockL_n ?_ | refine blockL_r ?_ | refine blockL_x ?_ | refine blockL_y rfl ?_ | refine awp_seq ?_ | refine awp_block ?_ | refine awp_ret ?_ | refine awp_exit ?_ | refine awp_skip ?_ | exact absurd hcond (by decide) | (first | (refine awp_txt ?_; refine runs_to [] (by simp only [go_sem, h, hv]; rfl) ?_) | (refine awp_draw mixed ?_; refine runs_to [] (by simp only [go_sem, h, hv]; rfl) ?_)) | refine runD_nil ⟨by kernel_rfl, ?_⟩ | refine runD_nil ?_ | (refine runD_call (c24 _ _) cb24 (by rfl) (by simp only [go_sem, h, hv]; rfl) (by ((repeat' (first | exact All2.nil | refine All2.cons ?_ ?_ | exact SubV.one (SubT.same _) | exact SubV.one (SubT.nil _) | refine SubV.agg ?_ | exact SubT.same _ | exact SubT.nil _)); first | done | fail)) ?_; refine runs_to [] (by simp only [go_sem, h, hv]; rfl) ?_) | (refine runD_call (c29 _) cb29 (by rfl) (by simp only [go_sem, h, hv]; rfl) (by ((repeat' (first | exact All2.nil | refine All2.cons ?_ ?_ | exact SubV.one (SubT.same _) | exact SubV.one (SubT.nil _) | refine SubV.agg ?_ | exact SubT.same _ | exact SubT.nil _)); first | done | fail)) ?_; refine runs_to [] (by simp only [go_sem, h, hv]; rfl) ?_) | (refine awp_cond (b := _) (by simp only [go_sem, evB, h, hv]; rfl) (fun hcond => ?_) (fun hcond => ?_)))); all_goals (refine leaves_ok (by first | exact Or.inl rfl | exact Or.inr rfl) (by simp only [go_sem, resAll, resL, packL, vecsOf, freezeAll, freezeL, h, hv]; rfl) ?_; (first | refine SubR.v ?_ | refine SubR.tup ?_); ((repeat' (first | exact All2.nil | refine All2.cons ?_ ?_ | exact SubV.one (SubT.same _) | exact SubV.one (SubT.nil _) | refine SubV.agg ?_ | exact SubT.same _ | exact SubT.nil _)); first | done | fail)))
/-- What is written of a ballot and a vector. -/
def allN (n1 n2 : Nat) (vs : List Nat) : List Nat := n1 :: n2 :: vs.length :: vs
theorem c41c (n1 n2 : Nat) (vs : List Nat) (h : balOK n1 n2 = true) (hv : vecOK (pNats vs) = true) (hn : ∀ n, n ∈ allN n1 n2 vs → n ≤ 4611686018427387903) : Pure Try.prog 41 [bal n1 n2, pInts (pNats vs)] (.tup [.one (vBy (encs (allN n1 n2 vs))), vlit (.int .i64 0)]) := by
  have hl7 := vecOK7 hv
  have hpl : (pNats vs).length = vs.length := by simp [pNats]
  have hc1 : 3 + (pNats vs).length ≤ 140737488355328 := by omega
  have hc2 : (3 + (pNats vs).length) * 8 ≤ 140737488355328 := by omega
  have hc3 : 3 + vs.length ≤ 140737488355328 := by omega
  have hc4 : (3 + vs.length) * 8 ≤ 140737488355328 := by omega
  have k85 := c85 (allN n1 n2 vs) (by simp only [allN, List.length_cons]; omega) hn
  have kw85 : Pure Try.prog 85 [.one (.sl 1 ([.lit (.int .i64 n1)] :: [.lit (.int .i64 n2)] :: [.lit (.int .i64 vs.length)] :: (pNats vs).map fun n => [.lit (.int .i64 n)]))] (.tup [.one (vBy (encs (allN n1 n2 vs))), vlit (.int .i64 0)]) := k85
  refine pure_of_body Try.func41 rfl (by simp [Try.f41]) ?_; rw [Try.ntmps41, Try.results41]; intro w0 G0
  ((repeat' (first | refine thenL_n ?_ | refine thenL_r ?_ | refine thenL_x ?_ | refine blockL_n ?_ | refine blockL_r ?_ | refine blockL_x ?_ | refine blockL_y rfl ?_ | refine awp_seq ?_ | refine awp_block ?_ | refine awp_ret ?_ | refine awp_exit ?_ | refine awp_skip ?_ | exact absurd hcond (by decide) | (first | (refine awp_txt ?_; refine runs_to [26] (by simp only [go_sem, h, hv, hpl, hc1, hc2, hc3, hc4]; rfl) ?_) | (refine awp_draw mixed ?_; refine runs_to [26] (by simp only [go_sem, h, hv, hpl, hc1, hc2, hc3, hc4]; rfl) ?_)) | refine runD_nil ⟨by kernel_rfl, ?_⟩ | refine runD_nil ?_ | (refine runD_call (c24 _ _) cb24 (by rfl) (by simp only [go_sem, h, hv, hpl, hc1, hc2, hc3, hc4]; rfl) (by ((repeat' (first | exact All2.nil | refine All2.cons ?_ ?_ | exact SubV.one (SubT.same _) | exact SubV.one (SubT.nil _) | refine SubV.agg ?_ | exact SubT.same _ | exact SubT.nil _)); first | done | fail)) ?_; refine runs_to [26] (by simp only [go_sem, h, hv, hpl, hc1, hc2, hc3, hc4]; rfl) ?_) | (refine runD_call (c29 _) cb29 (by rfl) (by simp only [go_sem, h, hv, hpl, hc1, hc2, hc3, hc4]; rfl) (by ((repeat' (first | exact All2.nil | refine All2.cons ?_ ?_ | exact SubV.one (SubT.same _) | exact SubV.one (SubT.nil _) | refine SubV.agg ?_ | exact SubT.same _ | exact SubT.nil _)); first | done | fail)) ?_; refine runs_to [26] (by simp only [go_sem, h, hv, hpl, hc1, hc2, hc3, hc4]; rfl) ?_) | (refine runD_call (kw85) cb85 (by rfl) (by simp only [go_sem, h, hv, hpl, hc1, hc2, hc3, hc4]; rfl) (by ((repeat' (first | exact All2.nil | refine All2.cons ?_ ?_ | exact SubV.one (SubT.same _) | exact SubV.one (SubT.nil _) | refine SubV.agg ?_ | exact SubT.same _ | exact SubT.nil _)); first | done | fail)) ?_; refine runs_to [26] (by simp only [go_sem, h, hv, hpl, hc1, hc2, hc3, hc4]; rfl) ?_) | (refine awp_cond (b := _) (by simp only [go_sem, evB, h, hv, hpl, hc1, hc2, hc3, hc4]; rfl) (fun hcond => ?_) (fun hcond => ?_)))); all_goals (refine leaves_ok (by first | exact Or.inl rfl | exact Or.inr rfl) (by simp only [go_sem, resAll, resL, packL, vecsOf, freezeAll, freezeL, h, hv, hpl, hc1, hc2, hc3, hc4]; rfl) ?_; (first | refine SubR.v ?_ | refine SubR.tup ?_); ((repeat' (first | exact All2.nil | refine All2.cons ?_ ?_ | exact SubV.one (SubT.same _) | exact SubV.one (SubT.nil _) | refine SubV.agg ?_ | exact SubT.same _ | exact SubT.nil _)); first | done | fail)))

theorem c44 (n1 n2 : Nat) (vs : List Nat) (hl7 : vs.length ≤ 7) (hn : ∀ n, n ∈ allN n1 n2 vs → n ≤ 4611686018427387903) : Pure Try.prog 44 [bal n1 n2, pInts (pNats vs)] (.v (.one (vBy (encs (allN n1 n2 vs))))) := by
  have hpl : (pNats vs).length = vs.length := by simp [pNats]
  have e1 := enc_len (hn n1 (by simp [allN]))
  have e2 := enc_len (hn n2 (by simp [allN]))
  have e3 := enc_len (hn vs.length (by simp [allN]))
  have ow90 := o90 [encN n1, encN n2, encN vs.length] (by simp; omega) (by simp)
  have h3 : encs [n1, n2, vs.length] = [encN n1, encN n2, encN vs.length].flatten := by simp [encs]
  generalize [encN n1, encN n2, encN vs.length].flatten = z at ow90 h3
  refine pure_of_body Try.func44 rfl (by simp [Try.f44]) ?_; rw [Try.ntmps44, Try.results44]; intro w0 G0
  (repeat' (first | refine thenL_n ?_ | refine thenL_r ?_ | refine thenL_x ?_ | refine blockL_n ?_ | refine blockL_r ?_ | refine blockL_x ?_ | refine blockL_y rfl ?_ | refine awp_seq ?_ | refine awp_block ?_ | refine awp_ret ?_ | refine awp_exit ?_ | refine awp_skip ?_ | exact absurd hcond (by decide) | (first | (refine awp_txt ?_; refine runs_to [16] (by simp only [go_sem, hpl]; rfl) ?_) | (refine awp_draw mixed ?_; refine runs_to [16] (by simp only [go_sem, hpl]; rfl) ?_)) | refine runD_nil ⟨by kernel_rfl, ?_⟩ | refine runD_nil ?_ | (refine runD_call (c91 n1 (hn n1 (by simp [allN]))) cb91 (by rfl) (by simp only [go_sem, hpl]; rfl) (by ((repeat' (first | exact All2.nil | refine All2.cons ?_ ?_ | exact SubV.one (SubT.same _) | exact SubV.one (SubT.nil _) | refine SubV.agg ?_ | exact SubT.same _ | exact SubT.nil _)); first | done | fail)) ?_; refine runs_to [16] (by simp only [go_sem, hpl]; rfl) ?_) | (refine runD_call (c91 n2 (hn n2 (by simp [allN]))) cb91 (by rfl) (by simp only [go_sem, hpl]; rfl) (by ((repeat' (first | exact All2.nil | refine All2.cons ?_ ?_ | exact SubV.one (SubT.same _) | exact SubV.one (SubT.nil _) | refine SubV.agg ?_ | exact SubT.same _ | exact SubT.nil _)); first | done | fail)) ?_; refine runs_to [16] (by simp only [go_sem, hpl]; rfl) ?_) | (refine runD_call (c91 vs.length (hn vs.length (by simp [allN]))) cb91 (by rfl) (by simp only [go_sem, hpl]; rfl) (by ((repeat' (first | exact All2.nil | refine All2.cons ?_ ?_ | exact SubV.one (SubT.same _) | exact SubV.one (SubT.nil _) | refine SubV.agg ?_ | exact SubT.same _ | exact SubT.nil _)); first | done | fail)) ?_; refine runs_to [16] (by simp only [go_sem, hpl]; rfl) ?_) | (refine runD_own (ow90) cb90 (by rfl) (by simp only [go_sem, hpl]; rfl) (by simp only [go_sem, hpl]; rfl) (by ((repeat' (first | exact All2.nil | refine All2.cons ?_ ?_ | exact SubV.one (SubT.same _) | exact SubV.one (SubT.nil _) | refine SubV.agg ?_ | exact SubT.same _ | exact SubT.nil _)); first | done | fail)) ?_; refine runs_to [16] (by simp only [go_sem, hpl]; rfl) ?_) | (refine awp_cond (b := _) (by simp only [go_sem, evB, hpl]; rfl) (fun hcond => ?_) (fun hcond => ?_))))
  refine awp_imp (Imp.takeE 17 40 (by simp only [go_sem, fixL, Cont.fix, SV.fix, V1.fix, At.fix, cellsT, renL, Loc.ren, Cont.ren, SV.ren, V1.ren, At.ren, freezeL]) (by simp only [go_sem, fixL, Cont.fix, SV.fix, V1.fix, At.fix, cellsT, renL, Loc.ren, Cont.ren, SV.ren, V1.ren, At.ren, freezeL]; rfl) (by decide) (by simp only [go_sem, fixL, Cont.fix, SV.fix, V1.fix, At.fix, cellsT, renL, Loc.ren, Cont.ren, SV.ren, V1.ren, At.ren, freezeL]; rfl)) ?_
  refine awp_loop (fun i : Nat => [(.slot 1, sT (vInts (pNats vs))), (.slot 5, sR 40), (.vec 40, byV (encs (n1 :: n2 :: vs.length :: vs.take i))), (.slot 6, sI i)]) (fun i => i ≤ vs.length) (fun i => vs.length - i) 0 (Nat.zero_le _) (by refine Imp.of_in ?_; simp only [go_sem, h3, Int.natCast_zero]) ?_
  intro i hi
  by_cases hlt : (i : Int) < vs.length
  · have hil : i < vs.length := by omega
    have hx : (pNats vs)[i]? = some (vs[i] : Int) := by simp [pNats, List.getElem?_eq_getElem hil]
    have hts : vs.take (i + 1) = vs.take i ++ [vs[i]] := List.take_succ_eq_append_getElem hil
    have hxb := hn vs[i] (by simp only [allN, List.mem_cons]; exact .inr (.inr (.inr (List.getElem_mem _))))
    have hel := encs_len (n1 :: n2 :: vs.length :: vs.take i) fun m hm => hn m (by
      simp only [allN, List.mem_cons] at hm ⊢
      rcases hm with h | h | h | h
      · exact .inl h
      · exact .inr (.inl h)
      · exact .inr (.inr (.inl h))
      · exact .inr (.inr (.inr (List.mem_of_mem_take h))))
    have htl : (n1 :: n2 :: vs.length :: vs.take i).length ≤ 20 := by simp only [List.length_cons, List.length_take]; omega
    generalize vs[i] = x at hx hts hxb
    have hex := enc_len hxb
    have hw := up i (by omega)
    have hfin : encs (n1 :: n2 :: vs.length :: vs.take (i + 1)) = encs (n1 :: n2 :: vs.length :: vs.take i) ++ encN x := by
      rw [hts, ← encs_snoc]; rfl
    have hc1 : (encs (n1 :: n2 :: vs.length :: vs.take i)).length + (encN x).length ≤ 140737488355328 := by omega
    have hc2 : ((encs (n1 :: n2 :: vs.length :: vs.take i)).length + (encN x).length) * 1 ≤ 140737488355328 := by omega
    generalize encs (n1 :: n2 :: vs.length :: vs.take i) = z at hfin hc1 hc2
    have hmap : List.map (fun n => [T.lit (.int .u8 n)]) (z ++ encN x) = List.map (fun n => [T.lit (.int .u8 n)]) z ++ List.map (fun n => [T.lit (.int .u8 n)]) (encN x) := by simp
    (repeat' (first | refine thenL_n ?_ | refine thenL_r ?_ | refine thenL_x ?_ | refine blockL_n ?_ | refine blockL_r ?_ | refine blockL_x ?_ | refine blockL_y rfl ?_ | refine awp_seq ?_ | refine awp_block ?_ | refine awp_ret ?_ | refine awp_exit ?_ | refine awp_skip ?_ | exact absurd hcond (by decide) | (first | (refine awp_txt ?_; refine runs_to [] (by simp only [go_sem, hlt, hpl, hx, hw, hc1, hc2]; rfl) ?_) | (refine awp_draw mixed ?_; refine runs_to [] (by simp only [go_sem, hlt, hpl, hx, hw, hc1, hc2]; rfl) ?_)) | refine runD_nil ⟨by kernel_rfl, ?_⟩ | refine runD_nil ?_ | (refine runD_call (c91 x hxb) cb91 (by rfl) (by simp only [go_sem, hlt, hpl, hx, hw, hc1, hc2]; rfl) (by ((repeat' (first | exact All2.nil | refine All2.cons ?_ ?_ | exact SubV.one (SubT.same _) | exact SubV.one (SubT.nil _) | refine SubV.agg ?_ | exact SubT.same _ | exact SubT.nil _)); first | done | fail)) ?_; refine runs_to [] (by simp only [go_sem, hlt, hpl, hx, hw, hc1, hc2]; rfl) ?_) | (refine awp_cond (b := _) (by simp only [go_sem, evB, hlt, hpl, hx, hw, hc1, hc2]; rfl) (fun hcond => ?_) (fun hcond => ?_))))
    refine ⟨i + 1, by omega, by omega, (by refine Imp.back 30 40 (by simp only [go_sem, renL, Loc.ren, Cont.ren, SV.ren, V1.ren, At.ren,  hfin, hmap]) (by simp only [go_sem, renL, Loc.ren, Cont.ren, SV.ren, V1.ren, At.ren,  hfin, hmap]) (by simp only [go_sem, renL, Loc.ren, Cont.ren, SV.ren, V1.ren, At.ren,  hfin, hmap]) (by decide) (by decide) ?_; refine Imp.of_in ?_; simp only [go_sem, renL, Loc.ren, Cont.ren, SV.ren, V1.ren, At.ren,  hfin, hmap])⟩
  · have hta : vs.take i = vs := by rw [show i = vs.length by omega, List.take_length]
    rw [hta]
    ((repeat' (first | refine thenL_n ?_ | refine thenL_r ?_ | refine thenL_x ?_ | refine blockL_n ?_ | refine blockL_r ?_ | refine blockL_x ?_ | refine blockL_y rfl ?_ | refine awp_seq ?_ | refine awp_block ?_ | refine awp_ret ?_ | refine awp_exit ?_ | refine awp_skip ?_ | exact absurd hcond (by decide) | (first | (refine awp_txt ?_; refine runs_to [] (by simp only [go_sem, hlt, hpl, allN]; rfl) ?_) | (refine awp_draw mixed ?_; refine runs_to [] (by simp only [go_sem, hlt, hpl, allN]; rfl) ?_)) | refine runD_nil ⟨by kernel_rfl, ?_⟩ | refine runD_nil ?_ | (refine awp_cond (b := _) (by simp only [go_sem, evB, hlt, hpl, allN]; rfl) (fun hcond => ?_) (fun hcond => ?_)))); all_goals (refine leaves_ok (by first | exact Or.inl rfl | exact Or.inr rfl) (by simp only [go_sem, resAll, resL, packL, vecsOf, freezeAll, freezeL, hlt, hpl, allN]; rfl) ?_; (first | refine SubR.v ?_ | refine SubR.tup ?_); ((repeat' (first | exact All2.nil | refine All2.cons ?_ ?_ | exact SubV.one (SubT.same _) | exact SubV.one (SubT.nil _) | refine SubV.agg ?_ | exact SubT.same _ | exact SubT.nil _)); first | done | fail)))
end Go.Proofs.Ytbohgpdpglfepaa
