import Derived.Test.YtbohgpdpglfepaaU30
import Derived.Test.YtbohgpdpglfepaaW1
import Derived.Test.YtbohgpdpglfepaaA25
set_option maxHeartbeats 4000000
set_option maxRecDepth 10000
set_option linter.unusedVariables false
set_option linter.unusedSimpArgs false
namespace Go.Proofs.Ytbohgpdpglfepaa
open Go.AM Go.RowKit
attribute [local irreducible] AWP thenL blockL AM.Leaves LeavesO RunD
attribute [local go_sem] runs stepR actF inF frzA frzW lastW act act1 actPick actNil actBin
  actUn actConv actExtract actFieldAddr actField actAlloc keysOf actBox actLoad treesOf actStore actIndex
  actLen actMx srcL actAppend actMake actBuild actBuildSlice boundL actSlice actCall actEqS isStruct
  isSlice actText actCopy litsOf kindsOK fieldsPlain eqAll eqop dstB dstN boolS litB
  litV sv binv unv lits takeC cellsR trees cellsW mxv repl parts
  fillAt fillRows V1.cs mkV ev evr AM.look put del applyL delD wrD
  undefS SV.to V1.to At.to keysL notIn freshKey PV.up PR.up entry entryV evp
  isAt actPtrNil capsL actFunc sameV sameVs pureCtx doc mkVar AM.Loc.key Cont.keys SV.keys
  V1.keys At.keys Cont.sub SV.sub V1.sub At.sub guardR argsL callR Nat.blt_eq Nat.blt Nat.ble
  Nat.beq_eq_true_eq beq_self_eq_true Array.toList List.map List.append_eq List.nil_append List.cons_append List.append_nil List.append_assoc Bool.and_eq_true decide_true decide_false
  decide_eq_true_eq Bool.not_true Bool.not_false reduceCtorEq if_true if_false ite_true ite_false reduceIte AM.Loc.slot.injEq AM.Loc.cell.injEq AM.Loc.vec.injEq
  List.getElem?_cons_zero List.getElem?_cons_succ List.getElem?_nil Option.map_some Option.map_none Option.toList List.flatMap_nil List.flatMap_cons Bool.and_true Bool.true_and Bool.and_false Bool.false_and
  Bool.true_eq_false Bool.false_eq_true Nat.reduceBEq Nat.reduceEqDiff bool_beq_tt bool_beq_ff bool_beq_tf bool_beq_ft List.length_cons List.length_nil List.drop List.take
  List.drop_zero List.take_zero List.all_cons List.all_nil Value.oneCell' Nat.zero_add Nat.reduceAdd Nat.reduceMul Nat.reduceSub Nat.reduceLT Nat.reduceLeDiff Int.reduceLT
  Int.reduceLE Int.reduceEq Int.reduceBEq Int.reduceBNe Int.reduceAdd Int.reduceSub Int.reduceMul Int.reduceNeg Int.reduceToNat Nat.succ_ne_zero List.replicate and_true
  true_and and_false false_and and_self ge_iff_le gt_iff_lt bne_self_eq_false List.zip_cons_cons List.zip_nil_left List.zip List.zipWith Int.natCast_nonneg
  Int.toNat_natCast List.getElem?_map List.length_map sT sI sB sR sP rV AllIn Int.toNat_zero Int.ofNat_zero
  Int.natCast_zero Nat.le_refl List.mapM_cons List.mapM_nil Option.bind_eq_bind Option.bind_some Option.pure_def List.set_cons_zero List.set_cons_succ List.length_set tt2 tt3
  tt4 tt5 tt9 tt12 tt21 tt22 tt23 tt24 tt25 tt36 tt37 tt43
  tt44 tt51 tt52 tt53 tt59 tt67 tt68 tt69 tt74 tt75 tt76 tt77
  tt78 tt79 tt89 tt92 tt95 tt96 tt97 tt98 tt99 tt102 tt103 tt106
  tt107 tt108 tt114 tt115 tt116 tt117 tt118 tt119 tt120 tt122 tt124 tt125
  tt126 tt127 tt130 tt131 tt132 tt133 tt134 tt135 tt137 tt138 tt139 tt147
  tt148 tt149 tt159 tt164 tt165 tt167 tt168 tt169 tt170 tt171 tt190 tt191
  tt194 tt200 tt208 tt212
attribute [local go_sem] vlit bal rInt rBool vInts pInts vvInts vBy vvBy lI lB

theorem c113 (n : Int) : Pure Try.prog 113 [vlit (.int .i64 n)] (rBool (numOK n)) := by
  by_cases h1 : 0 ≤ n
  · have hf : numOK n = decide (n ≤ 4611686018427387903) := by simp [numOK, h1]
    rw [hf]
    refine pure_of_body Try.func113 rfl (by simp [Try.f113]) ?_; rw [Try.ntmps113, Try.results113]; intro w0 G0
    ((repeat' (first | refine thenL_n ?_ | refine thenL_r ?_ | refine thenL_x ?_ | refine blockL_n ?_ | refine blockL_r ?_ | refine blockL_x ?_ | refine blockL_y rfl ?_ | refine awp_seq ?_ | refine awp_block ?_ | refine awp_ret ?_ | refine awp_exit ?_ | refine awp_skip ?_ | exact absurd hcond (by decide) | (first | (refine awp_txt ?_; refine runs_to [] (by simp only [go_sem, h1]; rfl) ?_) | (refine awp_draw mixed ?_; refine runs_to [] (by simp only [go_sem, h1]; rfl) ?_)) | refine runD_nil ⟨by kernel_rfl, ?_⟩ | refine runD_nil ?_ | (refine awp_cond (b := _) (by simp only [go_sem, evB, h1]; rfl) (fun hcond => ?_) (fun hcond => ?_)))); all_goals (refine leaves_ok (by first | exact Or.inl rfl | exact Or.inr rfl) (by simp only [go_sem, resAll, resL, packL, vecsOf, freezeAll, freezeL, h1]; rfl) ?_; (first | refine SubR.v ?_ | refine SubR.tup ?_); ((repeat' (first | exact All2.nil | refine All2.cons ?_ ?_ | exact SubV.one (SubT.same _) | exact SubV.one (SubT.nil _) | refine SubV.agg ?_ | exact SubT.same _ | exact SubT.nil _)); first | done | fail)))
  · have hf : numOK n = false := by simp [numOK, h1]
    rw [hf]
    refine pure_of_body Try.func113 rfl (by simp [Try.f113]) ?_; rw [Try.ntmps113, Try.results113]; intro w0 G0
    ((repeat' (first | refine thenL_n ?_ | refine thenL_r ?_ | refine thenL_x ?_ | refine blockL_n ?_ | refine blockL_r ?_ | refine blockL_x ?_ | refine blockL_y rfl ?_ | refine awp_seq ?_ | refine awp_block ?_ | refine awp_ret ?_ | refine awp_exit ?_ | refine awp_skip ?_ | exact absurd hcond (by decide) | (first | (refine awp_txt ?_; refine runs_to [] (by simp only [go_sem, h1]; rfl) ?_) | (refine awp_draw mixed ?_; refine runs_to [] (by simp only [go_sem, h1]; rfl) ?_)) | refine runD_nil ⟨by kernel_rfl, ?_⟩ | refine runD_nil ?_ | (refine awp_cond (b := _) (by simp only [go_sem, evB, h1]; rfl) (fun hcond => ?_) (fun hcond => ?_)))); all_goals (refine leaves_ok (by first | exact Or.inl rfl | exact Or.inr rfl) (by simp only [go_sem, resAll, resL, packL, vecsOf, freezeAll, freezeL, h1]; rfl) ?_; (first | refine SubR.v ?_ | refine SubR.tup ?_); ((repeat' (first | exact All2.nil | refine All2.cons ?_ ?_ | exact SubV.one (SubT.same _) | exact SubV.one (SubT.nil _) | refine SubV.agg ?_ | exact SubT.same _ | exact SubT.nil _)); first | done | fail)))

def byV (xs : List Int) : Cont := .r 1 5 (xs.map fun n => [.lit (.int .u8 n)])
attribute [local go_sem] byV

theorem w8 (n : Int) : IntKind.u8.wrap n = n % 256 := IntKind.wrap_u8 n
theorem enc_len {n : Nat} (h : n ≤ 4611686018427387903) : (encN n).length ≤ 9 := (rdk_enc 8 n [] (by simp; omega)).2
theorem fdiv128 (m : Nat) : (m : Int).fdiv (2 ^ min (Int.toNat 7) 64) = ((m / 128 : Nat) : Int) := by
  have : (2 : Int) ^ min (Int.toNat 7) 64 = ((128 : Nat) : Int) := rfl
  rw [this, Int.fdiv_eq_ediv_of_nonneg _ (by omega)]; rfl

/-- One number behind bytes. -/
theorem s114 (b : List Int) (hb : b.length ≤ 1000) (n : Nat) (hn : n ≤ 4611686018427387903) : Does Try.prog 114 [.one (.row 100000), .one (lI n)] [(.vec 100000, byV b)] (.v (.one (.row 19))) [(.vec 19, byV (b ++ encN n))] := by
  have hel := enc_len hn
  refine does_of_body Try.func114 rfl (by simp [Try.f114]) rfl rfl ?_; rw [Try.ntmps114, Try.results114]; intro w0 G0 ρ0
  refine awp_imp (Imp.takeE 100000 40 (by simp only [go_sem, fixL, Cont.fix, SV.fix, V1.fix, At.fix, cellsT, renL, Loc.ren, Cont.ren, SV.ren, V1.ren, At.ren, freezeL]) (by simp only [go_sem, fixL, Cont.fix, SV.fix, V1.fix, At.fix, cellsT, renL, Loc.ren, Cont.ren, SV.ren, V1.ren, At.ren, freezeL]; rfl) (by decide) (by simp only [go_sem, fixL, Cont.fix, SV.fix, V1.fix, At.fix, cellsT, renL, Loc.ren, Cont.ren, SV.ren, V1.ren, At.ren, freezeL]; rfl)) ?_
  refine awp_seq ?_
  (repeat' (first | refine thenL_n ?_ | refine thenL_r ?_ | refine thenL_x ?_ | refine blockL_n ?_ | refine blockL_r ?_ | refine blockL_x ?_ | refine blockL_y rfl ?_ | refine awp_seq ?_ | refine awp_block ?_ | refine awp_ret ?_ | refine awp_exit ?_ | refine awp_skip ?_ | exact absurd hcond (by decide) | (first | (refine awp_txt ?_; refine runs_to [] (by simp only [go_sem]; rfl) ?_) | (refine awp_draw mixed ?_; refine runs_to [] (by simp only [go_sem]; rfl) ?_)) | refine runD_nil ⟨by kernel_rfl, ?_⟩ | refine runD_nil ?_ | (refine awp_cond (b := _) (by simp only [go_sem, evB]; rfl) (fun hcond => ?_) (fun hcond => ?_))))
  refine awp_loop (fun p : Nat × List Int => [(.slot 0, sR 40), (.slot 1, sI p.1), (.vec 40, byV p.2)]) (fun p => p.1 ≤ n ∧ p.2 ++ encN p.1 = b ++ encN n) (fun p => p.1) (n, b) ⟨Nat.le_refl _, rfl⟩ (by refine Imp.of_in ?_; simp only [go_sem, renL, Loc.ren, Cont.ren, SV.ren, V1.ren, At.ren]) ?_
  rintro ⟨m, c⟩ ⟨hm, he⟩
  simp only at hm he
  have hlen := congrArg List.length he
  simp only [List.length_append] at hlen
  have hp := encN_pos m
  have hc1 : c.length + 1 ≤ 140737488355328 := by omega
  have hc2 : (c.length + 1) * 1 ≤ 140737488355328 := by omega
  by_cases hlt : (128 : Int) ≤ (m : Int)
  · have hm128 : 128 ≤ m := by omega
    have hor : IntKind.u8.wrap ((BitVec.ofInt IntKind.u8.bits (IntKind.u8.wrap (m : Int)) ||| BitVec.ofInt IntKind.u8.bits 128).toNat : Int) = ((128 + m % 128 : Nat) : Int) := by
      have h2 := w_or ((m : Int) % 256) ⟨by omega, by omega⟩
      have h3 : (((128 + m % 128 : Nat)) : Int) = 128 + (m : Int) % 256 % 128 := by omega
      rw [w8 (m : Int), h3, ← h2]; rfl
    simp only [go_sem] at hor
    have hsh : shV .shr .i64 (m : Int) 7 = some (.int .i64 ((m / 128 : Nat) : Int)) := by
      rw [← fdiv128 m]; rfl
    have hmap : List.map (fun n => [T.lit (.int .u8 n)]) (c ++ [((128 + m % 128 : Nat) : Int)]) = List.map (fun n => [T.lit (.int .u8 n)]) c ++ [[T.lit (.int .u8 ((128 + m % 128 : Nat) : Int))]] := by simp
    (repeat' (first | refine thenL_n ?_ | refine thenL_r ?_ | refine thenL_x ?_ | refine blockL_n ?_ | refine blockL_r ?_ | refine blockL_x ?_ | refine blockL_y rfl ?_ | refine awp_seq ?_ | refine awp_block ?_ | refine awp_ret ?_ | refine awp_exit ?_ | refine awp_skip ?_ | exact absurd hcond (by decide) | (first | (refine awp_txt ?_; refine runs_to [] (by simp only [go_sem, hlt, hor, hsh, hc1, hc2]; rfl) ?_) | (refine awp_draw mixed ?_; refine runs_to [] (by simp only [go_sem, hlt, hor, hsh, hc1, hc2]; rfl) ?_)) | refine runD_nil ⟨by kernel_rfl, ?_⟩ | refine runD_nil ?_ | (refine runD_sh (by simp only [go_sem, shR, hlt, hor, hsh, hc1, hc2]; rfl) ?_; refine runs_to [] (by simp only [go_sem, hlt, hor, hsh, hc1, hc2]; rfl) ?_) | (refine awp_cond (b := _) (by simp only [go_sem, evB, hlt, hor, hsh, hc1, hc2]; rfl) (fun hcond => ?_) (fun hcond => ?_))))
    refine ⟨(m / 128, c ++ [((128 + m % 128 : Nat) : Int)]), ⟨by simp only; omega, by rw [← he, encN_ge hm128]; simp⟩, by simp only; omega, (by refine Imp.back 14 40 (by simp only [go_sem, renL, Loc.ren, Cont.ren, SV.ren, V1.ren, At.ren,  hmap]) (by simp only [go_sem, renL, Loc.ren, Cont.ren, SV.ren, V1.ren, At.ren,  hmap]) (by simp only [go_sem, renL, Loc.ren, Cont.ren, SV.ren, V1.ren, At.ren,  hmap]) (by decide) (by decide) ?_; refine Imp.of_in ?_; simp only [go_sem, renL, Loc.ren, Cont.ren, SV.ren, V1.ren, At.ren,  hmap])⟩
  · have hm128 : m < 128 := by omega
    have hw : IntKind.u8.wrap (m : Int) = (m : Int) := IntWalk.u8_in _ ⟨by omega, by omega⟩
    have hmap : List.map (fun n => [T.lit (.int .u8 n)]) (b ++ encN n) = List.map (fun n => [T.lit (.int .u8 n)]) c ++ [[T.lit (.int .u8 (m : Int))]] := by
      rw [← he, encN_lt hm128]; simp
    ((repeat' (first | refine thenL_n ?_ | refine thenL_r ?_ | refine thenL_x ?_ | refine blockL_n ?_ | refine blockL_r ?_ | refine blockL_x ?_ | refine blockL_y rfl ?_ | refine awp_seq ?_ | refine awp_block ?_ | refine awp_ret ?_ | refine awp_exit ?_ | refine awp_skip ?_ | exact absurd hcond (by decide) | (first | (refine awp_txt ?_; refine runs_to [] (by simp only [go_sem, hlt, hw, hc1, hc2, hmap]; rfl) ?_) | (refine awp_draw mixed ?_; refine runs_to [] (by simp only [go_sem, hlt, hw, hc1, hc2, hmap]; rfl) ?_)) | refine runD_nil ⟨by kernel_rfl, ?_⟩ | refine runD_nil ?_ | (refine awp_cond (b := _) (by simp only [go_sem, evB, hlt, hw, hc1, hc2, hmap]; rfl) (fun hcond => ?_) (fun hcond => ?_)))); all_goals (refine leavesD_ok (by first | exact Or.inl rfl | exact Or.inr rfl) (Imp.refl _) (by simp only [go_sem, resAll, resL, hlt, hw, hc1, hc2, hmap]; rfl) (by simp only [packL]; (first | refine SubS.v ?_ | refine SubS.tup ?_); ((repeat' (first | exact All2.nil | refine All2.cons ?_ ?_ | exact SubW.one (SubA.same _) | exact SubW.one (SubA.nil _) | exact SubW.one (SubA.ptr _) | refine SubW.agg ?_ | exact SubA.same _ | exact SubA.nil _ | exact SubA.ptr _)); first | done | fail)) (by simp only [go_sem, hlt, hw, hc1, hc2, hmap]; repeat' (first | exact trivial | refine And.intro rfl ?_))))

theorem o91 (n : Nat) (hn : n ≤ 4611686018427387903) : Own Try.prog 91 [vlit (.int .i64 n)] (.v (.one (.row 0))) 1 5 ((encN n).map fun n => [.lit (.int .u8 n)]) := by
  have hel := enc_len hn
  refine own_of_body Try.func91 rfl (by simp [Try.f91]) ?_; rw [Try.ntmps91, Try.results91]; intro w0 G0
  (repeat' (first | refine thenL_n ?_ | refine thenL_r ?_ | refine thenL_x ?_ | refine blockL_n ?_ | refine blockL_r ?_ | refine blockL_x ?_ | refine blockL_y rfl ?_ | refine awp_seq ?_ | refine awp_block ?_ | refine awp_ret ?_ | refine awp_exit ?_ | refine awp_skip ?_ | exact absurd hcond (by decide) | (first | (refine awp_txt ?_; refine runs_to [] (by simp only [go_sem]; rfl) ?_) | (refine awp_draw mixed ?_; refine runs_to [] (by simp only [go_sem]; rfl) ?_)) | refine runD_nil ⟨by kernel_rfl, ?_⟩ | refine runD_nil ?_ | (refine awp_cond (b := _) (by simp only [go_sem, evB]; rfl) (fun hcond => ?_) (fun hcond => ?_))))
  refine awp_imp (Imp.takeE 4 40 (by simp only [go_sem, fixL, Cont.fix, SV.fix, V1.fix, At.fix, cellsT, renL, Loc.ren, Cont.ren, SV.ren, V1.ren, At.ren, freezeL]) (by simp only [go_sem, fixL, Cont.fix, SV.fix, V1.fix, At.fix, cellsT, renL, Loc.ren, Cont.ren, SV.ren, V1.ren, At.ren, freezeL]; rfl) (by decide) (by simp only [go_sem, fixL, Cont.fix, SV.fix, V1.fix, At.fix, cellsT, renL, Loc.ren, Cont.ren, SV.ren, V1.ren, At.ren, freezeL]; rfl)) ?_
  refine awp_loop (fun p : Nat × List Int => [(.slot 3, sR 40), (.slot 0, sI p.1), (.vec 40, byV p.2)]) (fun p => p.1 ≤ n ∧ p.2 ++ encN p.1 = encN n) (fun p => p.1) (n, []) ⟨Nat.le_refl _, by simp⟩ (by refine Imp.of_in ?_; simp only [go_sem, renL, Loc.ren, Cont.ren, SV.ren, V1.ren, At.ren, List.map_nil]) ?_
  rintro ⟨m, c⟩ ⟨hm, he⟩
  simp only at hm he
  have hlen := congrArg List.length he
  simp only [List.length_append] at hlen
  have hp := encN_pos m
  have hc1 : c.length + 1 ≤ 140737488355328 := by omega
  have hc2 : (c.length + 1) * 1 ≤ 140737488355328 := by omega
  by_cases hlt : (128 : Int) ≤ (m : Int)
  · have hm128 : 128 ≤ m := by omega
    have hrem : (m : Int).tmod 128 = ((m % 128 : Nat) : Int) := by rw [IntWalk.rem_in _ _ (by omega)]; omega
    have hadd : IntKind.i64.wrap (128 + ((m % 128 : Nat) : Int)) = ((128 + m % 128 : Nat) : Int) := by rw [IntWalk.i64_in _ ⟨by omega, by omega⟩]; omega
    have hcv : IntKind.u8.wrap ((128 + m % 128 : Nat) : Int) = ((128 + m % 128 : Nat) : Int) := IntWalk.u8_in _ ⟨by omega, by omega⟩
    have hq : IntKind.i64.wrap ((m : Int).tdiv 128) = ((m / 128 : Nat) : Int) := by rw [IntWalk.i64_quo _ _ ⟨by omega, by omega, by omega⟩]; omega
    have hmap : List.map (fun n => [T.lit (.int .u8 n)]) (c ++ [((128 + m % 128 : Nat) : Int)]) = List.map (fun n => [T.lit (.int .u8 n)]) c ++ [[T.lit (.int .u8 ((128 + m % 128 : Nat) : Int))]] := by simp
    (repeat' (first | refine thenL_n ?_ | refine thenL_r ?_ | refine thenL_x ?_ | refine blockL_n ?_ | refine blockL_r ?_ | refine blockL_x ?_ | refine blockL_y rfl ?_ | refine awp_seq ?_ | refine awp_block ?_ | refine awp_ret ?_ | refine awp_exit ?_ | refine awp_skip ?_ | exact absurd hcond (by decide) | (first | (refine awp_txt ?_; refine runs_to [] (by simp only [go_sem, hlt, hrem, hadd, hcv, hq, hc1, hc2]; rfl) ?_) | (refine awp_draw mixed ?_; refine runs_to [] (by simp only [go_sem, hlt, hrem, hadd, hcv, hq, hc1, hc2]; rfl) ?_)) | refine runD_nil ⟨by kernel_rfl, ?_⟩ | refine runD_nil ?_ | (refine awp_cond (b := _) (by simp only [go_sem, evB, hlt, hrem, hadd, hcv, hq, hc1, hc2]; rfl) (fun hcond => ?_) (fun hcond => ?_))))
    refine ⟨(m / 128, c ++ [((128 + m % 128 : Nat) : Int)]), ⟨by simp only; omega, by rw [← he, encN_ge hm128]; simp⟩, by simp only; omega, (by refine Imp.back 13 40 (by simp only [go_sem, renL, Loc.ren, Cont.ren, SV.ren, V1.ren, At.ren,  hmap]) (by simp only [go_sem, renL, Loc.ren, Cont.ren, SV.ren, V1.ren, At.ren,  hmap]) (by simp only [go_sem, renL, Loc.ren, Cont.ren, SV.ren, V1.ren, At.ren,  hmap]) (by decide) (by decide) ?_; refine Imp.of_in ?_; simp only [go_sem, renL, Loc.ren, Cont.ren, SV.ren, V1.ren, At.ren,  hmap])⟩
  · have hm128 : m < 128 := by omega
    have hw : IntKind.u8.wrap (m : Int) = (m : Int) := IntWalk.u8_in _ ⟨by omega, by omega⟩
    have hmap : List.map (fun n => [T.lit (.int .u8 n)]) (encN n) = List.map (fun n => [T.lit (.int .u8 n)]) c ++ [[T.lit (.int .u8 (m : Int))]] := by
      rw [← he, encN_lt hm128]; simp
    (repeat' (first | refine thenL_n ?_ | refine thenL_r ?_ | refine thenL_x ?_ | refine blockL_n ?_ | refine blockL_r ?_ | refine blockL_x ?_ | refine blockL_y rfl ?_ | refine awp_seq ?_ | refine awp_block ?_ | refine awp_ret ?_ | refine awp_exit ?_ | refine awp_skip ?_ | exact absurd hcond (by decide) | (first | (refine awp_txt ?_; refine runs_to [] (by simp only [go_sem, hlt, hw, hc1, hc2]; rfl) ?_) | (refine awp_draw mixed ?_; refine runs_to [] (by simp only [go_sem, hlt, hw, hc1, hc2]; rfl) ?_)) | refine runD_nil ⟨by kernel_rfl, ?_⟩ | refine runD_nil ?_ | (refine awp_cond (b := _) (by simp only [go_sem, evB, hlt, hw, hc1, hc2]; rfl) (fun hcond => ?_) (fun hcond => ?_))))
    refine leavesO_ok 20 (by first | exact Or.inl rfl | exact Or.inr rfl) (by simp only [go_sem,  hmap] <;> rfl) (by simp only [go_sem, resAll, resL,  hmap]; rfl) (by simp only [go_sem, packL, SV.to, V1.to, At.to,  hmap])
theorem c91 (n : Nat) (hn : n ≤ 4611686018427387903) : Pure Try.prog 91 [vlit (.int .i64 n)] (.v (.one (vBy (encN n)))) :=
  pure_of_own (o91 n hn) (.v (.one (.same _)))
end Go.Proofs.Ytbohgpdpglfepaa
