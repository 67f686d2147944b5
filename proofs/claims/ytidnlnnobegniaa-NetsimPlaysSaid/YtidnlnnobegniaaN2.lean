import Derived.Test.YtidnlnnobegniaaN1
set_option maxHeartbeats 4000000
set_option maxRecDepth 10000
set_option linter.unusedVariables false
set_option linter.unusedSimpArgs false
namespace Go.Proofs.Ytidnlnnobegniaa
open Go.AM Go.RowKit
attribute [local irreducible] AWP thenL blockL AM.Leaves LeavesO RunD
attribute [local go_sem] act0 actN actX actFieldM actIndexM actLoadM actStoreM actAllocM actBoxM actBuildM actSliceM actRange
  actEntry actDelB bigT bigOp offHole sizeM keyC actMakeMap actLookup actMapEntry actEntryStore actMapUpdate
  actDelete actClear actLen2 actIndex2 actLoad2 actOne actApp2 actCall2 actMark isZI isZS isOwn
  QHole.at holeB runs stepR actF inF frzA frzW lastW act act1 actPick
  actNil actBin actUn actConv actExtract actFieldAddr actField actAlloc keysOf actBox actLoad treesOf
  actStore actIndex actLen actMx srcL actAppend actMake actBuild actBuildSlice boundL actSlice actCall
  actEqS isStruct isSlice actText actCopy litsOf kindsOK fieldsPlain eqAll eqop dstB dstN
  boolS litB litV sv binv unv lits takeC cellsR trees cellsW mxv
  repl parts fillAt fillRows V1.cs mkV ev evr AM.look put del applyL
  delD wrD undefS SV.to V1.to At.to keysL notIn freshKey PV.up PR.up entry
  entryV evp isAt actPtrNil capsL actFunc sameV sameVs pureCtx doc mkVar AM.Loc.key
  Cont.keys SV.keys V1.keys At.keys Cont.sub SV.sub V1.sub At.sub guardR argsL callR eq_self
  Nat.blt_eq Nat.blt Nat.ble Nat.beq_eq_true_eq beq_self_eq_true Array.toList List.map List.append_eq List.nil_append List.cons_append List.append_nil List.append_assoc
  Bool.and_eq_true decide_true decide_false decide_eq_true_eq Bool.not_true Bool.not_false reduceCtorEq if_true if_false ite_true ite_false reduceIte
  AM.Loc.slot.injEq AM.Loc.cell.injEq AM.Loc.vec.injEq List.getElem?_cons_zero List.getElem?_cons_succ List.getElem?_nil Option.map_some Option.map_none Option.toList List.flatMap_nil List.flatMap_cons Bool.and_true
  Bool.true_and Bool.and_false Bool.false_and Bool.true_eq_false Bool.false_eq_true Nat.reduceBEq Nat.reduceEqDiff bool_beq_tt bool_beq_ff bool_beq_tf bool_beq_ft List.length_cons
  List.length_nil List.drop List.take List.drop_zero List.take_zero List.all_cons List.all_nil Value.oneCell' Nat.zero_add Nat.reduceAdd Nat.reduceMul Nat.reduceSub
  Nat.reduceLT Nat.reduceLeDiff Int.reduceLT Int.reduceLE Int.reduceEq Int.reduceBEq Int.reduceBNe Int.reduceAdd Int.reduceSub Int.reduceMul Int.reduceNeg Int.reduceToNat
  Nat.succ_ne_zero List.replicate and_true true_and and_false false_and and_self ge_iff_le gt_iff_lt bne_self_eq_false List.zip_cons_cons List.zip_nil_left
  List.zip List.zipWith Int.natCast_nonneg Int.toNat_natCast List.getElem?_map List.length_map sT sI sB sR sP rV
  AllIn Int.toNat_zero Int.ofNat_zero Int.natCast_zero Nat.le_refl List.mapM_cons List.mapM_nil Option.bind_eq_bind Option.bind_some Option.bind_none Option.pure_def List.set_cons_zero
  List.set_cons_succ List.length_set cellsF_length cellsF_lit putF_one tt2 tt3 tt4 tt5 tt9 tt12 tt21
  tt22 tt23 tt24 tt30 tt39 tt40 tt41 tt42 tt43 tt44 tt45 tt49
  tt59 tt60 tt61 tt62 tt63 tt66 tt67 tt70 tt94 tt98 mo60 mo61
  mg22 mg3 zz22 zz3 bi50 bi51 bi52 bi54 im60 ho54
attribute [local go_sem] vlit rInt rBool vInts pInts vBy vvBy

/-- No node. -/
def badN (k : Nat) (n : Int) : Bool := decide (n < 0) || decide ((k : Int) ≤ n)
theorem c41 (n : Int) (cs : List Int) : Pure Try.prog 41 [vlit (.int .i64 n), .one (.ptr [vInts cs])] (rBool (badN cs.length n)) := by
  by_cases h1 : n < 0
  · have hf : badN cs.length n = true := by simp [badN, h1]
    rw [hf]
    refine pure_of_body Try.func41 rfl (by simp [Try.f41]) ?_; rw [Try.ntmps41, Try.results41]; intro w0 G0
    ((repeat' (first | refine thenL_n ?_ | refine thenL_r ?_ | refine thenL_x ?_ | refine blockL_n ?_ | refine blockL_r ?_ | refine blockL_x ?_ | refine blockL_y rfl ?_ | refine awp_seq ?_ | refine awp_block ?_ | refine awp_ret ?_ | refine awp_exit ?_ | refine awp_skip ?_ | exact absurd hcond (by decide) | (first | (refine awp_txt ?_; refine runs_to [] (by simp only [go_sem, h1]; rfl) ?_) | (refine awp_draw mixed ?_; refine runs_to [] (by simp only [go_sem, h1]; rfl) ?_)) | refine runD_nil ⟨by kernel_rfl, ?_⟩ | refine runD_nil ?_ | (refine awp_cond (b := _) (by simp only [go_sem, evB, h1]; rfl) (fun hcond => ?_) (fun hcond => ?_)))); all_goals (refine leaves_ok (by first | exact Or.inl rfl | exact Or.inr rfl) (by simp only [go_sem, resAll, resL, packL, vecsOf, freezeAll, freezeL, h1]; rfl) ?_; (first | refine SubR.v ?_ | refine SubR.tup ?_); ((repeat' (first | exact All2.nil | refine All2.cons ?_ ?_ | exact SubV.one (SubT.same _) | exact SubV.one (SubT.nil _) | refine SubV.agg ?_ | exact SubT.same _ | exact SubT.nil _)); first | done | fail)))
  · have hf : badN cs.length n = decide ((cs.length : Int) ≤ n) := by simp [badN, h1]
    rw [hf]
    refine pure_of_body Try.func41 rfl (by simp [Try.f41]) ?_; rw [Try.ntmps41, Try.results41]; intro w0 G0
    ((repeat' (first | refine thenL_n ?_ | refine thenL_r ?_ | refine thenL_x ?_ | refine blockL_n ?_ | refine blockL_r ?_ | refine blockL_x ?_ | refine blockL_y rfl ?_ | refine awp_seq ?_ | refine awp_block ?_ | refine awp_ret ?_ | refine awp_exit ?_ | refine awp_skip ?_ | exact absurd hcond (by decide) | (first | (refine awp_txt ?_; refine runs_to [] (by simp only [go_sem, h1]; rfl) ?_) | (refine awp_draw mixed ?_; refine runs_to [] (by simp only [go_sem, h1]; rfl) ?_)) | refine runD_nil ⟨by kernel_rfl, ?_⟩ | refine runD_nil ?_ | (refine awp_cond (b := _) (by simp only [go_sem, evB, h1]; rfl) (fun hcond => ?_) (fun hcond => ?_)))); all_goals (refine leaves_ok (by first | exact Or.inl rfl | exact Or.inr rfl) (by simp only [go_sem, resAll, resL, packL, vecsOf, freezeAll, freezeL, h1]; rfl) ?_; (first | refine SubR.v ?_ | refine SubR.tup ?_); ((repeat' (first | exact All2.nil | refine All2.cons ?_ ?_ | exact SubV.one (SubT.same _) | exact SubV.one (SubT.nil _) | refine SubV.agg ?_ | exact SubT.same _ | exact SubT.nil _)); first | done | fail)))

/-- Where the first stands that passes. -/
def idxI (p : Int → Bool) : List Int → Int
  | [] => -1
  | q :: l => if p q then 0 else if idxI p l < 0 then -1 else idxI p l + 1
theorem idxI_at (p : Int → Bool) : ∀ (l : List Int) (i : Nat) (q : Int), l[i]? = some q → p q = true → (∀ (j : Nat) r, j < i → l[j]? = some r → p r = false) → idxI p l = i
  | [], i, q, h, _, _ => by simp at h
  | r :: l, 0, q, h, hp, _ => by
    simp at h; subst h
    simp [idxI, hp]
  | r :: l, i + 1, q, h, hp, ha => by
    have hr := ha 0 r (by omega) rfl
    have ih := idxI_at p l i q (by simpa using h) hp fun j r hj hr => ha (j + 1) r (by omega) (by simpa using hr)
    rw [idxI, hr, ih, if_neg (by simp), if_neg (by omega)]; rfl
theorem idxI_no (p : Int → Bool) : ∀ (l : List Int), (∀ q, q ∈ l → p q = false) → idxI p l = -1
  | [], _ => rfl
  | r :: l, h => by
    rw [idxI, h r (by simp), if_neg (by simp), idxI_no p l fun q hq => h q (by simp [hq]), if_pos (by omega)]
theorem idxI_any (p : Int → Bool) : ∀ (l : List Int), decide (0 ≤ idxI p l) = l.any p
  | [] => rfl
  | r :: l => by
    have ih := idxI_any p l
    rw [idxI, List.any_cons]
    cases h : p r with
    | true => simp
    | false =>
      rw [if_neg (by simp), Bool.false_or, ← ih]
      by_cases h2 : idxI p l < 0
      · rw [if_pos h2]; simp; omega
      · rw [if_neg h2]; simp; omega

theorem c46 (f : FuncId) (c : T) (cb9999 : callB Try.prog f = true) (p : Int → Bool) (l : List Int) (hl : l.length ≤ 4611686018427387903) (hp : ∀ q, q ∈ l → Pure Try.prog f [vlit (.int .i64 q), .one c] (rBool (p q))) : Pure Try.prog 46 [pInts l, .one (.fn f [c])] (rInt (idxI p l)) := by
  refine pure_of_body Try.func46 rfl (by simp [Try.f46]) ?_; rw [Try.ntmps46, Try.results46]; intro w0 G0
  (repeat' (first | refine thenL_n ?_ | refine thenL_r ?_ | refine thenL_x ?_ | refine blockL_n ?_ | refine blockL_r ?_ | refine blockL_x ?_ | refine blockL_y rfl ?_ | refine awp_seq ?_ | refine awp_block ?_ | refine awp_ret ?_ | refine awp_exit ?_ | refine awp_skip ?_ | exact absurd hcond (by decide) | (first | (refine awp_txt ?_; refine runs_to [] (by simp only [go_sem]; rfl) ?_) | (refine awp_draw mixed ?_; refine runs_to [] (by simp only [go_sem]; rfl) ?_)) | refine runD_nil ⟨by kernel_rfl, ?_⟩ | refine runD_nil ?_ | (refine awp_cond (b := _) (by simp only [go_sem, evB]; rfl) (fun hcond => ?_) (fun hcond => ?_))))
  refine awp_loop (fun i : Nat => [(.slot 0, sT (vInts l)), (.slot 1, sT (.fn f [c])), (.slot 7, sI l.length), (.slot 8, sI i)]) (fun i => i ≤ l.length ∧ ∀ (j : Nat) r, j < i → l[j]? = some r → p r = false) (fun i => l.length - i) 0 ⟨Nat.zero_le _, fun j r h => by omega⟩ (by refine Imp.of_in ?_; simp only [go_sem, Int.natCast_zero]) ?_
  rintro i ⟨hi, hall⟩
  by_cases hlt : (i : Int) < l.length
  · have hil : i < l.length := by omega
    have hxi : l[i]? = some l[i] := List.getElem?_eq_getElem hil
    have kww9999 := hp l[i] (List.getElem_mem _)
    generalize l[i] = q at hxi kww9999
    have hw := up i (by omega)
    cases hq : p q with
    | true =>
      rw [idxI_at p l i q hxi hq hall]
      rw [hq] at kww9999
      ((repeat' (first | refine thenL_n ?_ | refine thenL_r ?_ | refine thenL_x ?_ | refine blockL_n ?_ | refine blockL_r ?_ | refine blockL_x ?_ | refine blockL_y rfl ?_ | refine awp_seq ?_ | refine awp_block ?_ | refine awp_ret ?_ | refine awp_exit ?_ | refine awp_skip ?_ | exact absurd hcond (by decide) | (first | (refine awp_txt ?_; refine runs_to [] (by simp only [go_sem, hlt, hil, hxi, hw]; rfl) ?_) | (refine awp_draw mixed ?_; refine runs_to [] (by simp only [go_sem, hlt, hil, hxi, hw]; rfl) ?_)) | refine runD_nil ⟨by kernel_rfl, ?_⟩ | refine runD_nil ?_ | (refine runD_lend (kww9999) cb9999 (by rfl) (.inr (by simp only [go_sem, dynR, hlt, hil, hxi, hw]; rfl)) (by simp only [go_sem, lendL, lendV, lendA, lendAs, hlt, hil, hxi, hw]; rfl) (by ((repeat' (first | exact All2.nil | refine All2.cons ?_ ?_ | exact SubV.one (SubT.same _) | exact SubV.one (SubT.nil _) | refine SubV.agg ?_ | exact SubT.same _ | exact SubT.nil _)); first | done | fail)) (by rfl) ?_; refine runs_to [] (by simp only [go_sem, hlt, hil, hxi, hw]; rfl) ?_) | (refine awp_cond (b := _) (by simp only [go_sem, evB, hlt, hil, hxi, hw]; rfl) (fun hcond => ?_) (fun hcond => ?_)))); all_goals (refine leaves_ok (by first | exact Or.inl rfl | exact Or.inr rfl) (by simp only [go_sem, resAll, resL, packL, vecsOf, freezeAll, freezeL, hlt, hil, hxi, hw]; rfl) ?_; (first | refine SubR.v ?_ | refine SubR.tup ?_); ((repeat' (first | exact All2.nil | refine All2.cons ?_ ?_ | exact SubV.one (SubT.same _) | exact SubV.one (SubT.nil _) | refine SubV.agg ?_ | exact SubT.same _ | exact SubT.nil _)); first | done | fail)))
    | false =>
      rw [hq] at kww9999
      (repeat' (first | refine thenL_n ?_ | refine thenL_r ?_ | refine thenL_x ?_ | refine blockL_n ?_ | refine blockL_r ?_ | refine blockL_x ?_ | refine blockL_y rfl ?_ | refine awp_seq ?_ | refine awp_block ?_ | refine awp_ret ?_ | refine awp_exit ?_ | refine awp_skip ?_ | exact absurd hcond (by decide) | (first | (refine awp_txt ?_; refine runs_to [] (by simp only [go_sem, hlt, hil, hxi, hw]; rfl) ?_) | (refine awp_draw mixed ?_; refine runs_to [] (by simp only [go_sem, hlt, hil, hxi, hw]; rfl) ?_)) | refine runD_nil ⟨by kernel_rfl, ?_⟩ | refine runD_nil ?_ | (refine runD_lend (kww9999) cb9999 (by rfl) (.inr (by simp only [go_sem, dynR, hlt, hil, hxi, hw]; rfl)) (by simp only [go_sem, lendL, lendV, lendA, lendAs, hlt, hil, hxi, hw]; rfl) (by ((repeat' (first | exact All2.nil | refine All2.cons ?_ ?_ | exact SubV.one (SubT.same _) | exact SubV.one (SubT.nil _) | refine SubV.agg ?_ | exact SubT.same _ | exact SubT.nil _)); first | done | fail)) (by rfl) ?_; refine runs_to [] (by simp only [go_sem, hlt, hil, hxi, hw]; rfl) ?_) | (refine awp_cond (b := _) (by simp only [go_sem, evB, hlt, hil, hxi, hw]; rfl) (fun hcond => ?_) (fun hcond => ?_))))
      refine ⟨i + 1, ⟨by omega, fun j r hj hr => ?_⟩, by omega, (by refine Imp.of_in ?_; simp only [go_sem])⟩
      by_cases hji : j = i
      · subst hji; rw [hxi] at hr; injection hr with hr; rw [← hr]; exact hq
      · exact hall j r (by omega) hr
  · rw [idxI_no p l fun q hq => ?_]
    · ((repeat' (first | refine thenL_n ?_ | refine thenL_r ?_ | refine thenL_x ?_ | refine blockL_n ?_ | refine blockL_r ?_ | refine blockL_x ?_ | refine blockL_y rfl ?_ | refine awp_seq ?_ | refine awp_block ?_ | refine awp_ret ?_ | refine awp_exit ?_ | refine awp_skip ?_ | exact absurd hcond (by decide) | (first | (refine awp_txt ?_; refine runs_to [] (by simp only [go_sem, hlt]; rfl) ?_) | (refine awp_draw mixed ?_; refine runs_to [] (by simp only [go_sem, hlt]; rfl) ?_)) | refine runD_nil ⟨by kernel_rfl, ?_⟩ | refine runD_nil ?_ | (refine awp_cond (b := _) (by simp only [go_sem, evB, hlt]; rfl) (fun hcond => ?_) (fun hcond => ?_)))); all_goals (refine leaves_ok (by first | exact Or.inl rfl | exact Or.inr rfl) (by simp only [go_sem, resAll, resL, packL, vecsOf, freezeAll, freezeL, hlt]; rfl) ?_; (first | refine SubR.v ?_ | refine SubR.tup ?_); ((repeat' (first | exact All2.nil | refine All2.cons ?_ ?_ | exact SubV.one (SubT.same _) | exact SubV.one (SubT.nil _) | refine SubV.agg ?_ | exact SubT.same _ | exact SubT.nil _)); first | done | fail)))
    · obtain ⟨j, hj, rfl⟩ := List.mem_iff_getElem.1 hq
      exact hall j _ (by omega) (List.getElem?_eq_getElem hj)
theorem c40 (f : FuncId) (c : T) (cb9999 : callB Try.prog f = true) (p : Int → Bool) (l : List Int) (hl : l.length ≤ 4611686018427387903) (hp : ∀ q, q ∈ l → Pure Try.prog f [vlit (.int .i64 q), .one c] (rBool (p q))) : Pure Try.prog 40 [pInts l, .one (.fn f [c])] (rBool (l.any p)) := by
  have k46 := c46 f c cb9999 p l hl hp
  rw [← idxI_any]
  refine pure_of_body Try.func40 rfl (by simp [Try.f40]) ?_; rw [Try.ntmps40, Try.results40]; intro w0 G0
  ((repeat' (first | refine thenL_n ?_ | refine thenL_r ?_ | refine thenL_x ?_ | refine blockL_n ?_ | refine blockL_r ?_ | refine blockL_x ?_ | refine blockL_y rfl ?_ | refine awp_seq ?_ | refine awp_block ?_ | refine awp_ret ?_ | refine awp_exit ?_ | refine awp_skip ?_ | exact absurd hcond (by decide) | (first | (refine awp_txt ?_; refine runs_to [] (by simp only [go_sem]; rfl) ?_) | (refine awp_draw mixed ?_; refine runs_to [] (by simp only [go_sem]; rfl) ?_)) | refine runD_nil ⟨by kernel_rfl, ?_⟩ | refine runD_nil ?_ | (refine runD_call (k46) cb46 (by rfl) (by simp only [go_sem]; rfl) (by ((repeat' (first | exact All2.nil | refine All2.cons ?_ ?_ | exact SubV.one (SubT.same _) | exact SubV.one (SubT.nil _) | refine SubV.agg ?_ | exact SubT.same _ | exact SubT.nil _)); first | done | fail)) ?_; refine runs_to [] (by simp only [go_sem]; rfl) ?_) | (refine awp_cond (b := _) (by simp only [go_sem, evB]; rfl) (fun hcond => ?_) (fun hcond => ?_)))); all_goals (refine leaves_ok (by first | exact Or.inl rfl | exact Or.inr rfl) (by simp only [go_sem, resAll, resL, packL, vecsOf, freezeAll, freezeL]; rfl) ?_; (first | refine SubR.v ?_ | refine SubR.tup ?_); ((repeat' (first | exact All2.nil | refine All2.cons ?_ ?_ | exact SubV.one (SubT.same _) | exact SubV.one (SubT.nil _) | refine SubV.agg ?_ | exact SubT.same _ | exact SubT.nil _)); first | done | fail)))

/-- check. -/
def ckR (k : Nat) (ns : List Int) : Int := if ns.any (badN k) then 60 else 0
theorem c23 (cs ns : List Int) (hl : ns.length ≤ 4611686018427387903) : Pure Try.prog 23 [pInts cs, pInts ns] (rInt (ckR cs.length ns)) := by
  have k40 := c40 41 (.ptr [vInts cs]) cb41 (badN cs.length) ns hl fun q _ => c41 q cs
  cases h : ns.any (badN cs.length) with
  | true =>
    have hf : ckR cs.length ns = 60 := by simp [ckR, h]
    rw [hf]
    rw [h] at k40
    refine pure_of_body Try.func23 rfl (by simp [Try.f23]) ?_; rw [Try.ntmps23, Try.results23]; intro w0 G0
    (repeat' (first | refine thenL_n ?_ | refine thenL_r ?_ | refine thenL_x ?_ | refine blockL_n ?_ | refine blockL_r ?_ | refine blockL_x ?_ | refine blockL_y rfl ?_ | refine awp_seq ?_ | refine awp_block ?_ | refine awp_ret ?_ | refine awp_exit ?_ | refine awp_skip ?_ | exact absurd hcond (by decide) | ((fail_if_success (refine isReg 1 ?_)); first | (refine awp_txt ?_; refine runs_to [] (by simp only [go_sem]; rfl) ?_) | (refine awp_draw mixed ?_; refine runs_to [] (by simp only [go_sem]; rfl) ?_)) | refine runD_nil ⟨by kernel_rfl, ?_⟩ | refine runD_nil ?_ | (refine awp_cond (b := _) (by simp only [go_sem, evB]; rfl) (fun hcond => ?_) (fun hcond => ?_))))
    refine awp_imp (Imp.fixE 2 1 (by decide) (by simp only [go_sem, fixL, Cont.fix, SV.fix, V1.fix, At.fix, cellsT, renL, Loc.ren, Cont.ren, SV.ren, V1.ren, At.ren, freezeL]; rfl) (by decide) (by simp only [go_sem, fixL, Cont.fix, SV.fix, V1.fix, At.fix, cellsT, renL, Loc.ren, Cont.ren, SV.ren, V1.ren, At.ren, freezeL]; rfl)) ?_
    ((repeat' (first | refine thenL_n ?_ | refine thenL_r ?_ | refine thenL_x ?_ | refine blockL_n ?_ | refine blockL_r ?_ | refine blockL_x ?_ | refine blockL_y rfl ?_ | refine awp_seq ?_ | refine awp_block ?_ | refine awp_ret ?_ | refine awp_exit ?_ | refine awp_skip ?_ | exact absurd hcond (by decide) | (first | (refine awp_txt ?_; refine runs_to [] (by simp only [go_sem]; rfl) ?_) | (refine awp_draw mixed ?_; refine runs_to [] (by simp only [go_sem]; rfl) ?_)) | refine runD_nil ⟨by kernel_rfl, ?_⟩ | refine runD_nil ?_ | (refine runD_call (k40) cb40 (by rfl) (by simp only [go_sem]; rfl) (by ((repeat' (first | exact All2.nil | refine All2.cons ?_ ?_ | exact SubV.one (SubT.same _) | exact SubV.one (SubT.nil _) | refine SubV.agg ?_ | exact SubT.same _ | exact SubT.nil _)); first | done | fail)) ?_; refine runs_to [] (by simp only [go_sem]; rfl) ?_) | (refine awp_cond (b := _) (by simp only [go_sem, evB]; rfl) (fun hcond => ?_) (fun hcond => ?_)))); all_goals (refine leaves_ok (by first | exact Or.inl rfl | exact Or.inr rfl) (by simp only [go_sem, resAll, resL, packL, vecsOf, freezeAll, freezeL]; rfl) ?_; (first | refine SubR.v ?_ | refine SubR.tup ?_); ((repeat' (first | exact All2.nil | refine All2.cons ?_ ?_ | exact SubV.one (SubT.same _) | exact SubV.one (SubT.nil _) | refine SubV.agg ?_ | exact SubT.same _ | exact SubT.nil _)); first | done | fail)))
  | false =>
    have hf : ckR cs.length ns = 0 := by simp [ckR, h]
    rw [hf]
    rw [h] at k40
    refine pure_of_body Try.func23 rfl (by simp [Try.f23]) ?_; rw [Try.ntmps23, Try.results23]; intro w0 G0
    (repeat' (first | refine thenL_n ?_ | refine thenL_r ?_ | refine thenL_x ?_ | refine blockL_n ?_ | refine blockL_r ?_ | refine blockL_x ?_ | refine blockL_y rfl ?_ | refine awp_seq ?_ | refine awp_block ?_ | refine awp_ret ?_ | refine awp_exit ?_ | refine awp_skip ?_ | exact absurd hcond (by decide) | ((fail_if_success (refine isReg 1 ?_)); first | (refine awp_txt ?_; refine runs_to [] (by simp only [go_sem]; rfl) ?_) | (refine awp_draw mixed ?_; refine runs_to [] (by simp only [go_sem]; rfl) ?_)) | refine runD_nil ⟨by kernel_rfl, ?_⟩ | refine runD_nil ?_ | (refine awp_cond (b := _) (by simp only [go_sem, evB]; rfl) (fun hcond => ?_) (fun hcond => ?_))))
    refine awp_imp (Imp.fixE 2 1 (by decide) (by simp only [go_sem, fixL, Cont.fix, SV.fix, V1.fix, At.fix, cellsT, renL, Loc.ren, Cont.ren, SV.ren, V1.ren, At.ren, freezeL]; rfl) (by decide) (by simp only [go_sem, fixL, Cont.fix, SV.fix, V1.fix, At.fix, cellsT, renL, Loc.ren, Cont.ren, SV.ren, V1.ren, At.ren, freezeL]; rfl)) ?_
    ((repeat' (first | refine thenL_n ?_ | refine thenL_r ?_ | refine thenL_x ?_ | refine blockL_n ?_ | refine blockL_r ?_ | refine blockL_x ?_ | refine blockL_y rfl ?_ | refine awp_seq ?_ | refine awp_block ?_ | refine awp_ret ?_ | refine awp_exit ?_ | refine awp_skip ?_ | exact absurd hcond (by decide) | (first | (refine awp_txt ?_; refine runs_to [] (by simp only [go_sem]; rfl) ?_) | (refine awp_draw mixed ?_; refine runs_to [] (by simp only [go_sem]; rfl) ?_)) | refine runD_nil ⟨by kernel_rfl, ?_⟩ | refine runD_nil ?_ | (refine runD_call (k40) cb40 (by rfl) (by simp only [go_sem]; rfl) (by ((repeat' (first | exact All2.nil | refine All2.cons ?_ ?_ | exact SubV.one (SubT.same _) | exact SubV.one (SubT.nil _) | refine SubV.agg ?_ | exact SubT.same _ | exact SubT.nil _)); first | done | fail)) ?_; refine runs_to [] (by simp only [go_sem]; rfl) ?_) | (refine awp_cond (b := _) (by simp only [go_sem, evB]; rfl) (fun hcond => ?_) (fun hcond => ?_)))); all_goals (refine leaves_ok (by first | exact Or.inl rfl | exact Or.inr rfl) (by simp only [go_sem, resAll, resL, packL, vecsOf, freezeAll, freezeL]; rfl) ?_; (first | refine SubR.v ?_ | refine SubR.tup ?_); ((repeat' (first | exact All2.nil | refine All2.cons ?_ ?_ | exact SubV.one (SubT.same _) | exact SubV.one (SubT.nil _) | refine SubV.agg ?_ | exact SubT.same _ | exact SubT.nil _)); first | done | fail)))

/-- Clock. -/
theorem c22a (cs : List Int) (n : Int) (h : badN cs.length n = true) : Pure Try.prog 22 [pInts cs, vlit (.int .i64 n)] (.tup [vlit (.int .i64 0), vlit (.int .i64 60)]) := by
  have kw23 : Pure Try.prog 23 [pInts cs, pInts [n]] (rInt 60) := by
    have := c23 cs [n] (by simp)
    rwa [show ckR cs.length [n] = 60 by simp [ckR, h]] at this
  refine pure_of_body Try.func22 rfl (by simp [Try.f22]) ?_; rw [Try.ntmps22, Try.results22]; intro w0 G0
  ((repeat' (first | refine thenL_n ?_ | refine thenL_r ?_ | refine thenL_x ?_ | refine blockL_n ?_ | refine blockL_r ?_ | refine blockL_x ?_ | refine blockL_y rfl ?_ | refine awp_seq ?_ | refine awp_block ?_ | refine awp_ret ?_ | refine awp_exit ?_ | refine awp_skip ?_ | exact absurd hcond (by decide) | (first | (refine awp_txt ?_; refine runs_to [9] (by simp only [go_sem]; rfl) ?_) | (refine awp_draw mixed ?_; refine runs_to [9] (by simp only [go_sem]; rfl) ?_)) | refine runD_nil ⟨by kernel_rfl, ?_⟩ | refine runD_nil ?_ | (refine runD_call (kw23) cb23 (by rfl) (by simp only [go_sem]; rfl) (by ((repeat' (first | exact All2.nil | refine All2.cons ?_ ?_ | exact SubV.one (SubT.same _) | exact SubV.one (SubT.nil _) | refine SubV.agg ?_ | exact SubT.same _ | exact SubT.nil _)); first | done | fail)) ?_; refine runs_to [9] (by simp only [go_sem]; rfl) ?_) | (refine awp_cond (b := _) (by simp only [go_sem, evB]; rfl) (fun hcond => ?_) (fun hcond => ?_)))); all_goals (refine leaves_ok (by first | exact Or.inl rfl | exact Or.inr rfl) (by simp only [go_sem, resAll, resL, packL, vecsOf, freezeAll, freezeL]; rfl) ?_; (first | refine SubR.v ?_ | refine SubR.tup ?_); ((repeat' (first | exact All2.nil | refine All2.cons ?_ ?_ | exact SubV.one (SubT.same _) | exact SubV.one (SubT.nil _) | refine SubV.agg ?_ | exact SubT.same _ | exact SubT.nil _)); first | done | fail)))
theorem c22b (cs : List Int) (i : Nat) (t : Int) (h : cs[i]? = some t) : Pure Try.prog 22 [pInts cs, vlit (.int .i64 i)] (.tup [vlit (.int .i64 t), vlit (.int .i64 0)]) := by
  have hil : i < cs.length := (List.getElem?_eq_some_iff.1 h).1
  have kw23 : Pure Try.prog 23 [pInts cs, pInts [(i : Int)]] (rInt 0) := by
    have := c23 cs [(i : Int)] (by simp)
    rwa [show ckR cs.length [(i : Int)] = 0 by simp [ckR, badN]; omega] at this
  refine pure_of_body Try.func22 rfl (by simp [Try.f22]) ?_; rw [Try.ntmps22, Try.results22]; intro w0 G0
  ((repeat' (first | refine thenL_n ?_ | refine thenL_r ?_ | refine thenL_x ?_ | refine blockL_n ?_ | refine blockL_r ?_ | refine blockL_x ?_ | refine blockL_y rfl ?_ | refine awp_seq ?_ | refine awp_block ?_ | refine awp_ret ?_ | refine awp_exit ?_ | refine awp_skip ?_ | exact absurd hcond (by decide) | (first | (refine awp_txt ?_; refine runs_to [9] (by simp only [go_sem, h]; rfl) ?_) | (refine awp_draw mixed ?_; refine runs_to [9] (by simp only [go_sem, h]; rfl) ?_)) | refine runD_nil ⟨by kernel_rfl, ?_⟩ | refine runD_nil ?_ | (refine runD_call (kw23) cb23 (by rfl) (by simp only [go_sem, h]; rfl) (by ((repeat' (first | exact All2.nil | refine All2.cons ?_ ?_ | exact SubV.one (SubT.same _) | exact SubV.one (SubT.nil _) | refine SubV.agg ?_ | exact SubT.same _ | exact SubT.nil _)); first | done | fail)) ?_; refine runs_to [9] (by simp only [go_sem, h]; rfl) ?_) | (refine awp_cond (b := _) (by simp only [go_sem, evB, h]; rfl) (fun hcond => ?_) (fun hcond => ?_)))); all_goals (refine leaves_ok (by first | exact Or.inl rfl | exact Or.inr rfl) (by simp only [go_sem, resAll, resL, packL, vecsOf, freezeAll, freezeL, h]; rfl) ?_; (first | refine SubR.v ?_ | refine SubR.tup ?_); ((repeat' (first | exact All2.nil | refine All2.cons ?_ ?_ | exact SubV.one (SubT.same _) | exact SubV.one (SubT.nil _) | refine SubV.agg ?_ | exact SubT.same _ | exact SubT.nil _)); first | done | fail)))
end Go.Proofs.Ytidnlnnobegniaa
