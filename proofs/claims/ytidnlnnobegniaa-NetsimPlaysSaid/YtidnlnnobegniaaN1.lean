import Derived.Test.YtidnlnnobegniaaTy
import Derived.Test.YtidnlnnobegniaaCb
import Derived.Test.YtidnlnnobegniaaMB
import Derived.KernelRfl
import Derived.IntWalk
set_option maxHeartbeats 4000000
set_option maxRecDepth 10000
set_option linter.unusedVariables false
set_option linter.unusedSimpArgs false
namespace Go.Proofs.Ytidnlnnobegniaa
open Go.AM Go.RowKit
attribute [local irreducible] AWP thenL blockL AM.Leaves LeavesO RunD
attribute [local go_sem] act0 actN actX actFieldM actIndexM actLoadM actStoreM actAllocM actBoxM actBuildM actSliceM actRange
  actEntry actDelB bigT bigOp offHole sizeM keyC actMakeMap actLookup actMapEntry actEntryStore actMapUpdate
  actDelete actClear actLen2 actIndex2 actLoad2 actOne actApp2 actCall2 actMark isZI isZS isOwn
  QHole.at holeB runs stepR actF inF frzA frzW lastW act act1 actPick
  actNil actBin actUn actConv actExtract actFieldAddr actField actAlloc keysOf actBox actLoad treesOf
  actStore actIndex actLen actMx srcL actAppend actMake actBuild actBuildSlice boundL actSlice actCall
  actEqS isStruct isSlice actText actCopy litsOf kindsOK fieldsPlain eqAll eqop dstB dstN
  boolS litB litV sv binv unv lits takeC cellsR trees cellsW mxv
  repl parts fillAt fillRows V1.cs mkV ev evr AM.look put del applyL
  delD wrD undefS SV.to V1.to At.to keysL notIn freshKey PV.up PR.up entry
  entryV evp isAt actPtrNil capsL actFunc sameV sameVs pureCtx doc mkVar AM.Loc.key
  Cont.keys SV.keys V1.keys At.keys Cont.sub SV.sub V1.sub At.sub guardR argsL callR eq_self
  Nat.blt_eq Nat.blt Nat.ble Nat.beq_eq_true_eq beq_self_eq_true Array.toList List.map List.append_eq List.nil_append List.cons_append List.append_nil List.append_assoc
  Bool.and_eq_true decide_true decide_false decide_eq_true_eq Bool.not_true Bool.not_false reduceCtorEq if_true if_false ite_true ite_false reduceIte
  AM.Loc.slot.injEq AM.Loc.cell.injEq AM.Loc.vec.injEq List.getElem?_cons_zero List.getElem?_cons_succ List.getElem?_nil Option.map_some Option.map_none Option.toList List.flatMap_nil List.flatMap_cons Bool.and_true
  Bool.true_and Bool.and_false Bool.false_and Bool.true_eq_false Bool.false_eq_true Nat.reduceBEq Nat.reduceEqDiff bool_beq_tt bool_beq_ff bool_beq_tf bool_beq_ft List.length_cons
  List.length_nil List.drop List.take List.drop_zero List.take_zero List.all_cons List.all_nil Value.oneCell' Nat.zero_add Nat.reduceAdd Nat.reduceMul Nat.reduceSub
  Nat.reduceLT Nat.reduceLeDiff Int.reduceLT Int.reduceLE Int.reduceEq Int.reduceBEq Int.reduceBNe Int.reduceAdd Int.reduceSub Int.reduceMul Int.reduceNeg Int.reduceToNat
  Nat.succ_ne_zero List.replicate and_true true_and and_false false_and and_self ge_iff_le gt_iff_lt bne_self_eq_false List.zip_cons_cons List.zip_nil_left
  List.zip List.zipWith Int.natCast_nonneg Int.toNat_natCast List.getElem?_map List.length_map sT sI sB sR sP rV
  AllIn Int.toNat_zero Int.ofNat_zero Int.natCast_zero Nat.le_refl List.mapM_cons List.mapM_nil Option.bind_eq_bind Option.bind_some Option.bind_none Option.pure_def List.set_cons_zero
  List.set_cons_succ List.length_set cellsF_length cellsF_lit putF_one tt2 tt3 tt4 tt5 tt9 tt12 tt21
  tt22 tt23 tt24 tt30 tt39 tt40 tt41 tt42 tt43 tt44 tt45 tt49
  tt59 tt60 tt61 tt62 tt63 tt66 tt67 tt70 tt94 tt98 mo60 mo61
  mg22 mg3 zz22 zz3 bi50 bi51 bi52 bi54 im60 ho54

def vlit (v : Value) : PV := .one (.lit v)
def rInt (n : Int) : PR := .v (.one (.lit (.int .i64 n)))
def rBool (b : Bool) : PR := .v (.one (.lit (.bool b)))
def vInts (xs : List Int) : T := .sl 1 (xs.map fun n => [.lit (.int .i64 n)])
def pInts (xs : List Int) : PV := .one (vInts xs)
def vBy (xs : List Int) : T := .sl 1 (xs.map fun n => [.lit (.int .u8 n)])
def vvBy (bs : List (List Int)) : T := .sl 1 (bs.map fun b => [vBy b])
attribute [local go_sem] vlit rInt rBool vInts pInts vBy vvBy

theorem up (i : Nat) (h : i ≤ 4611686018427387903) : IntKind.i64.wrap ((i : Int) + 1) = ((i + 1 : Nat) : Int) := by
  rw [IntWalk.i64_in _ ⟨by omega, by omega⟩]; rfl

/-- Same. -/
def sameB (xs ys : List Int) : Bool := (strOfNums xs).toList == (strOfNums ys).toList
theorem sameB_self (xs : List Int) : sameB xs xs = true := by simp [sameB]
theorem c13 (xs ys : List Int) : Pure Try.prog 13 [.one (vBy xs), .one (vBy ys)] (rBool (sameB xs ys)) := by
  have hby : bytesOf (List.map (fun n => [T.lit (.int .u8 n)]) xs) = some xs := bytesOf_rows xs
  have hby2 : bytesOf (List.map (fun n => [T.lit (.int .u8 n)]) ys) = some ys := bytesOf_rows ys
  refine pure_of_body Try.func13 rfl (by simp [Try.f13]) ?_; rw [Try.ntmps13, Try.results13]; intro w0 G0
  ((repeat' (first | refine thenL_n ?_ | refine thenL_r ?_ | refine thenL_x ?_ | refine blockL_n ?_ | refine blockL_r ?_ | refine blockL_x ?_ | refine blockL_y rfl ?_ | refine awp_seq ?_ | refine awp_block ?_ | refine awp_ret ?_ | refine awp_exit ?_ | refine awp_skip ?_ | exact absurd hcond (by decide) | (first | (refine awp_txt ?_; refine runs_to [] (by simp only [go_sem, hby, hby2, sameB]; rfl) ?_) | (refine awp_draw mixed ?_; refine runs_to [] (by simp only [go_sem, hby, hby2, sameB]; rfl) ?_)) | refine runD_nil ⟨by kernel_rfl, ?_⟩ | refine runD_nil ?_ | (refine awp_cond (b := _) (by simp only [go_sem, evB, hby, hby2, sameB]; rfl) (fun hcond => ?_) (fun hcond => ?_)))); all_goals (refine leaves_ok (by first | exact Or.inl rfl | exact Or.inr rfl) (by simp only [go_sem, resAll, resL, packL, vecsOf, freezeAll, freezeL, hby, hby2, sameB]; rfl) ?_; (first | refine SubR.v ?_ | refine SubR.tup ?_); ((repeat' (first | exact All2.nil | refine All2.cons ?_ ?_ | exact SubV.one (SubT.same _) | exact SubV.one (SubT.nil _) | refine SubV.agg ?_ | exact SubT.same _ | exact SubT.nil _)); first | done | fail)))

/-- Join, Copy. -/
theorem o42 (bs : List (List Int)) (hl : bs.flatten.length ≤ 140737488355328) (hn : bs.length ≤ 4611686018427387903) : Own Try.prog 42 [.one (vvBy bs)] (.v (.one (.row 0))) 1 5 (bs.flatten.map fun n => [.lit (.int .u8 n)]) := by
  refine own_of_body Try.func42 rfl (by simp [Try.f42]) ?_; rw [Try.ntmps42, Try.results42]; intro w0 G0
  (repeat' (first | refine thenL_n ?_ | refine thenL_r ?_ | refine thenL_x ?_ | refine blockL_n ?_ | refine blockL_r ?_ | refine blockL_x ?_ | refine blockL_y rfl ?_ | refine awp_seq ?_ | refine awp_block ?_ | refine awp_ret ?_ | refine awp_exit ?_ | refine awp_skip ?_ | exact absurd hcond (by decide) | (first | (refine awp_txt ?_; refine runs_to [] (by simp only [go_sem]; rfl) ?_) | (refine awp_draw mixed ?_; refine runs_to [] (by simp only [go_sem]; rfl) ?_)) | refine runD_nil ⟨by kernel_rfl, ?_⟩ | refine runD_nil ?_ | (refine awp_cond (b := _) (by simp only [go_sem, evB]; rfl) (fun hcond => ?_) (fun hcond => ?_))))
  refine awp_imp (Imp.takeE 5 40 (by simp only [go_sem, fixL, Cont.fix, SV.fix, V1.fix, At.fix, cellsT, renL, Loc.ren, Cont.ren, SV.ren, V1.ren, At.ren, freezeL]) (by simp only [go_sem, fixL, Cont.fix, SV.fix, V1.fix, At.fix, cellsT, renL, Loc.ren, Cont.ren, SV.ren, V1.ren, At.ren, freezeL]; rfl) (by decide) (by simp only [go_sem, fixL, Cont.fix, SV.fix, V1.fix, At.fix, cellsT, renL, Loc.ren, Cont.ren, SV.ren, V1.ren, At.ren, freezeL]; rfl)) ?_
  refine awp_loop (fun i : Nat => [(.slot 0, sT (vvBy bs)), (.slot 3, sR 40), (.vec 40, .r 1 5 ((bs.take i).flatten.map fun n => [.lit (.int .u8 n)])), (.slot 4, sI i)]) (fun i => i ≤ bs.length) (fun i => bs.length - i) 0 (Nat.zero_le _) (by refine Imp.of_in ?_; simp only [go_sem, List.flatten_nil, List.map_nil]) ?_
  intro i hi
  by_cases hlt : (i : Int) < bs.length
  · have hil : i < bs.length := by omega
    have hx : bs[i]? = some bs[i] := List.getElem?_eq_getElem hil
    have hts : bs.take (i + 1) = bs.take i ++ [bs[i]] := List.take_succ_eq_append_getElem hil
    have hle : (bs.take (i + 1)).flatten.length ≤ bs.flatten.length := by
      have h2 := congrArg List.flatten (List.take_append_drop (i + 1) bs)
      rw [List.flatten_append] at h2
      rw [← h2, List.length_append]; omega
    generalize bs[i] = b at hx hts
    have hfl : (bs.take (i + 1)).flatten = (bs.take i).flatten ++ b := by rw [hts]; simp
    rw [hfl, List.length_append] at hle
    have hw := up i (by omega)
    have hc1 : (bs.take i).flatten.length + b.length ≤ 140737488355328 := by omega
    have hc2 : ((bs.take i).flatten.length + b.length) * 1 ≤ 140737488355328 := by omega
    have hmap : List.map (fun n => [T.lit (.int .u8 n)]) (bs.take (i + 1)).flatten = List.map (fun n => [T.lit (.int .u8 n)]) (bs.take i).flatten ++ List.map (fun n => [T.lit (.int .u8 n)]) b := by rw [hfl]; simp
    (repeat' (first | refine thenL_n ?_ | refine thenL_r ?_ | refine thenL_x ?_ | refine blockL_n ?_ | refine blockL_r ?_ | refine blockL_x ?_ | refine blockL_y rfl ?_ | refine awp_seq ?_ | refine awp_block ?_ | refine awp_ret ?_ | refine awp_exit ?_ | refine awp_skip ?_ | exact absurd hcond (by decide) | (first | (refine awp_txt ?_; refine runs_to [] (by simp only [go_sem, hlt, hx, hw, hc1, hc2]; rfl) ?_) | (refine awp_draw mixed ?_; refine runs_to [] (by simp only [go_sem, hlt, hx, hw, hc1, hc2]; rfl) ?_)) | refine runD_nil ⟨by kernel_rfl, ?_⟩ | refine runD_nil ?_ | (refine awp_cond (b := _) (by simp only [go_sem, evB, hlt, hx, hw, hc1, hc2]; rfl) (fun hcond => ?_) (fun hcond => ?_))))
    refine ⟨i + 1, by omega, by omega, (by refine Imp.back 17 40 (by simp only [go_sem, renL, Loc.ren, Cont.ren, SV.ren, V1.ren, At.ren,  hmap]) (by simp only [go_sem, renL, Loc.ren, Cont.ren, SV.ren, V1.ren, At.ren,  hmap]) (by simp only [go_sem, renL, Loc.ren, Cont.ren, SV.ren, V1.ren, At.ren,  hmap]) (by decide) (by decide) ?_; refine Imp.of_in ?_; simp only [go_sem, renL, Loc.ren, Cont.ren, SV.ren, V1.ren, At.ren,  hmap])⟩
  · have hta : bs.take i = bs := by rw [show i = bs.length by omega, List.take_length]
    (repeat' (first | refine thenL_n ?_ | refine thenL_r ?_ | refine thenL_x ?_ | refine blockL_n ?_ | refine blockL_r ?_ | refine blockL_x ?_ | refine blockL_y rfl ?_ | refine awp_seq ?_ | refine awp_block ?_ | refine awp_ret ?_ | refine awp_exit ?_ | refine awp_skip ?_ | exact absurd hcond (by decide) | (first | (refine awp_txt ?_; refine runs_to [] (by simp only [go_sem, hlt]; rfl) ?_) | (refine awp_draw mixed ?_; refine runs_to [] (by simp only [go_sem, hlt]; rfl) ?_)) | refine runD_nil ⟨by kernel_rfl, ?_⟩ | refine runD_nil ?_ | (refine awp_cond (b := _) (by simp only [go_sem, evB, hlt]; rfl) (fun hcond => ?_) (fun hcond => ?_))))
    refine leavesO_ok 40 (by first | exact Or.inl rfl | exact Or.inr rfl) (by simp only [go_sem,  hta] <;> rfl) (by simp only [go_sem, resAll, resL,  hta]; rfl) (by simp only [go_sem, packL, SV.to, V1.to, At.to,  hta])

theorem o25 (b : List Int) (hl : b.length ≤ 140737488355328) : Own Try.prog 25 [.one (vBy b)] (.v (.one (.row 0))) 1 5 (b.map fun n => [.lit (.int .u8 n)]) := by
  have ow42 : Own Try.prog 42 [.one (vvBy [b])] (.v (.one (.row 0))) 1 5 (b.map fun n => [.lit (.int .u8 n)]) := by
    have := o42 [b] (by simpa using hl) (by simp)
    simpa using this
  refine own_of_body Try.func25 rfl (by simp [Try.f25]) ?_; rw [Try.ntmps25, Try.results25]; intro w0 G0
  (repeat' (first | refine thenL_n ?_ | refine thenL_r ?_ | refine thenL_x ?_ | refine blockL_n ?_ | refine blockL_r ?_ | refine blockL_x ?_ | refine blockL_y rfl ?_ | refine awp_seq ?_ | refine awp_block ?_ | refine awp_ret ?_ | refine awp_exit ?_ | refine awp_skip ?_ | exact absurd hcond (by decide) | (first | (refine awp_txt ?_; refine runs_to [4] (by simp only [go_sem]; rfl) ?_) | (refine awp_draw mixed ?_; refine runs_to [4] (by simp only [go_sem]; rfl) ?_)) | refine runD_nil ⟨by kernel_rfl, ?_⟩ | refine runD_nil ?_ | (refine runD_own (ow42) cb42 (by rfl) (by simp only [go_sem]; rfl) (by simp only [go_sem]; rfl) (by ((repeat' (first | exact All2.nil | refine All2.cons ?_ ?_ | exact SubV.one (SubT.same _) | exact SubV.one (SubT.nil _) | refine SubV.agg ?_ | exact SubT.same _ | exact SubT.nil _)); first | done | fail)) ?_; refine runs_to [4] (by simp only [go_sem]; rfl) ?_) | (refine awp_cond (b := _) (by simp only [go_sem, evB]; rfl) (fun hcond => ?_) (fun hcond => ?_))))
  refine leavesO_ok 5 (by first | exact Or.inl rfl | exact Or.inr rfl) (by simp only [go_sem] <;> rfl) (by simp only [go_sem, resAll, resL]; rfl) (by simp only [go_sem, packL, SV.to, V1.to, At.to])
theorem c25 (b : List Int) (hl : b.length ≤ 140737488355328) : Pure Try.prog 25 [.one (vBy b)] (.v (.one (vBy b))) :=
  pure_of_own (o25 b hl) (.v (.one (.same _)))

/-- bytes.Clone. -/
theorem o24 (xs : List Int) (hl : xs.length ≤ 140737488355328) : Own Try.prog 24 [.one (vBy xs)] (.v (.one (.row 0))) 1 5 (xs.map fun n => [.lit (.int .u8 n)]) := by
  have hl2 : xs.length * 1 ≤ 140737488355328 := by omega
  refine own_of_slice Try.func24 rfl (by simp [Try.f24]) (fun h => ?_) ?_
  · have h0 : xs = [] := by simpa using h
    subst h0
    rw [Try.ntmps24, Try.results24]
    intro w0 G0
    (repeat' (first | refine thenL_n ?_ | refine thenL_r ?_ | refine thenL_x ?_ | refine blockL_n ?_ | refine blockL_r ?_ | refine blockL_x ?_ | refine blockL_y rfl ?_ | refine awp_seq ?_ | refine awp_block ?_ | refine awp_ret ?_ | refine awp_exit ?_ | refine awp_skip ?_ | exact absurd hcond (by decide) | ((fail_if_success (refine isReg 2 ?_)); first | (refine awp_txt ?_; refine runs_to [] (by simp only [go_sem, Option.isNone, Bool.or_self, Bool.or_true, Bool.or_false]; rfl) ?_) | (refine awp_draw mixed ?_; refine runs_to [] (by simp only [go_sem, Option.isNone, Bool.or_self, Bool.or_true, Bool.or_false]; rfl) ?_)) | refine runD_nil ⟨by kernel_rfl, ?_⟩ | refine runD_nil ?_ | (refine awp_cond (b := _) (by simp only [go_sem, evB, Option.isNone, Bool.or_self, Bool.or_true, Bool.or_false]; rfl) (fun hcond => ?_) (fun hcond => ?_))))
    refine awp_txt ?_
    refine runs_to [] (by simp only [go_sem]; rfl) ?_
    refine runD_nil ?_
    refine thenL_n ?_
    refine awp_imp (Imp.adopt 2 40 1 5 (by simp only [go_sem]) (by decide) (by simp only [go_sem])) ?_
    (repeat' (first | refine thenL_n ?_ | refine thenL_r ?_ | refine thenL_x ?_ | refine blockL_n ?_ | refine blockL_r ?_ | refine blockL_x ?_ | refine blockL_y rfl ?_ | refine awp_seq ?_ | refine awp_block ?_ | refine awp_ret ?_ | refine awp_exit ?_ | refine awp_skip ?_ | exact absurd hcond (by decide) | (first | (refine awp_txt ?_; refine runs_to [] (by simp only [go_sem]; rfl) ?_) | (refine awp_draw mixed ?_; refine runs_to [] (by simp only [go_sem]; rfl) ?_)) | refine runD_nil ⟨by kernel_rfl, ?_⟩ | refine runD_nil ?_ | (refine awp_cond (b := _) (by simp only [go_sem, evB]; rfl) (fun hcond => ?_) (fun hcond => ?_))))
    refine leavesO_ok 40 (by first | exact Or.inl rfl | exact Or.inr rfl) (by simp only [go_sem] <;> rfl) (by simp only [go_sem, resAll, resL]; rfl) (by simp only [go_sem, packL, SV.to, V1.to, At.to])
  rw [Try.ntmps24, Try.results24]
  intro w0 G0 ad n cp hv
  refine awp_seq ?_
  refine awp_txt ?_
  refine runs_to [] (by simp only [go_sem]; rfl) ?_
  refine runD_nil ?_
  refine thenL_n ?_
  refine awp_seq ?_
  refine awp_seq ?_
  refine awp_txt ?_
  refine runs_to [] (by simp only [go_sem, Option.isNone, Bool.or_true, Bool.or_false]; rfl) ?_
  refine runD_nil ?_
  refine thenL_n ?_
  (refine awp_cond (b := _) (by simp only [go_sem, evB]; rfl) (fun hcond => ?_) (fun hcond => ?_))
  · exact absurd hcond (by decide)
  refine awp_skip ?_
  refine thenL_n ?_
  refine awp_imp (Imp.lift 0 hv rfl) ?_
  (repeat' (first | refine thenL_n ?_ | refine thenL_r ?_ | refine thenL_x ?_ | refine blockL_n ?_ | refine blockL_r ?_ | refine blockL_x ?_ | refine blockL_y rfl ?_ | refine awp_seq ?_ | refine awp_block ?_ | refine awp_ret ?_ | refine awp_exit ?_ | refine awp_skip ?_ | exact absurd hcond (by decide) | (first | (refine awp_txt ?_; refine runs_to [] (by simp only [go_sem, hl, hl2]; rfl) ?_) | (refine awp_draw mixed ?_; refine runs_to [] (by simp only [go_sem, hl, hl2]; rfl) ?_)) | refine runD_nil ⟨by kernel_rfl, ?_⟩ | refine runD_nil ?_ | (refine awp_cond (b := _) (by simp only [go_sem, evB, hl, hl2]; rfl) (fun hcond => ?_) (fun hcond => ?_))))
  refine leavesO_ok 7 (by first | exact Or.inl rfl | exact Or.inr rfl) (by simp only [go_sem] <;> rfl) (by simp only [go_sem, resAll, resL]; rfl) (by simp only [go_sem, packL, SV.to, V1.to, At.to])
end Go.Proofs.Ytidnlnnobegniaa
