import Derived.Test.YtbohgpdpglfepaaU34
set_option maxHeartbeats 4000000
set_option maxRecDepth 10000
set_option linter.unusedVariables false
set_option linter.unusedSimpArgs false
namespace Go.Proofs.Ytbohgpdpglfepaa
open Go.AM Go.RowKit
attribute [local irreducible] AWP thenL blockL AM.Leaves LeavesO RunD
attribute [local go_sem] runs stepR actF inF frzA frzW lastW act act1 actPick actNil actBin
  actUn actConv actExtract actFieldAddr actField actAlloc keysOf actBox actLoad treesOf actStore actIndex
  actLen actMx srcL actAppend actMake actBuild actBuildSlice boundL actSlice actCall actEqS isStruct
  isSlice actText actCopy litsOf kindsOK fieldsPlain eqAll eqop dstB dstN boolS litB
  litV sv binv unv lits takeC cellsR trees cellsW mxv repl parts
  fillAt fillRows V1.cs mkV ev evr AM.look put del applyL delD wrD
  undefS SV.to V1.to At.to keysL notIn freshKey PV.up PR.up entry entryV evp
  isAt actPtrNil capsL actFunc sameV sameVs pureCtx doc mkVar AM.Loc.key Cont.keys SV.keys
  V1.keys At.keys Cont.sub SV.sub V1.sub At.sub guardR argsL callR Nat.blt_eq Nat.blt Nat.ble
  Nat.beq_eq_true_eq beq_self_eq_true Array.toList List.map List.append_eq List.nil_append List.cons_append List.append_nil List.append_assoc Bool.and_eq_true decide_true decide_false
  decide_eq_true_eq Bool.not_true Bool.not_false reduceCtorEq if_true if_false ite_true ite_false reduceIte AM.Loc.slot.injEq AM.Loc.cell.injEq AM.Loc.vec.injEq
  List.getElem?_cons_zero List.getElem?_cons_succ List.getElem?_nil Option.map_some Option.map_none Option.toList List.flatMap_nil List.flatMap_cons Bool.and_true Bool.true_and Bool.and_false Bool.false_and
  Bool.true_eq_false Bool.false_eq_true Nat.reduceBEq Nat.reduceEqDiff bool_beq_tt bool_beq_ff bool_beq_tf bool_beq_ft List.length_cons List.length_nil List.drop List.take
  List.drop_zero List.take_zero List.all_cons List.all_nil Value.oneCell' Nat.zero_add Nat.reduceAdd Nat.reduceMul Nat.reduceSub Nat.reduceLT Nat.reduceLeDiff Int.reduceLT
  Int.reduceLE Int.reduceEq Int.reduceBEq Int.reduceBNe Int.reduceAdd Int.reduceSub Int.reduceMul Int.reduceNeg Int.reduceToNat Nat.succ_ne_zero List.replicate and_true
  true_and and_false false_and and_self ge_iff_le gt_iff_lt bne_self_eq_false List.zip_cons_cons List.zip_nil_left List.zip List.zipWith Int.natCast_nonneg
  Int.toNat_natCast List.getElem?_map List.length_map sT sI sB sR sP rV AllIn Int.toNat_zero Int.ofNat_zero
  Int.natCast_zero Nat.le_refl List.mapM_cons List.mapM_nil Option.bind_eq_bind Option.bind_some Option.pure_def List.set_cons_zero List.set_cons_succ List.length_set tt2 tt3
  tt4 tt5 tt9 tt12 tt21 tt22 tt23 tt24 tt25 tt36 tt37 tt43
  tt44 tt51 tt52 tt53 tt59 tt67 tt68 tt69 tt74 tt75 tt76 tt77
  tt78 tt79 tt89 tt92 tt95 tt96 tt97 tt98 tt99 tt102 tt103 tt106
  tt107 tt108 tt114 tt115 tt116 tt117 tt118 tt119 tt120 tt122 tt124 tt125
  tt126 tt127 tt130 tt131 tt132 tt133 tt134 tt135 tt137 tt138 tt139 tt147
  tt148 tt149 tt159 tt164 tt165 tt167 tt168 tt169 tt170 tt171 tt190 tt191
  tt194 tt200 tt208 tt212
attribute [local go_sem] vlit bal rInt rBool vInts pInts vvInts vBy vvBy lI lB byV wK dR

/-- Bytes of numbers, one behind the other. -/
def encs (ns : List Nat) : List Int := (ns.map encN).flatten
theorem encs_snoc (ns : List Nat) (n : Nat) : encs (ns ++ [n]) = encs ns ++ encN n := by simp [encs]
theorem encs_len : ∀ (ns : List Nat), (∀ n, n ∈ ns → n ≤ 4611686018427387903) → (encs ns).length ≤ 9 * ns.length
  | [], _ => by simp [encs]
  | n :: ns, h => by
    have := encs_len ns fun m hm => h m (by simp [hm])
    have := enc_len (h n (by simp))
    simp only [encs, List.map_cons, List.flatten_cons, List.length_append, List.length_cons] at *
    omega
def pNats (ns : List Nat) : List Int := ns.map fun n : Nat => (n : Int)

theorem c85 (ns : List Nat) (hl : ns.length ≤ 20) (h : ∀ n, n ∈ ns → n ≤ 4611686018427387903) : Pure Try.prog 85 [pInts (pNats ns)] (.tup [.one (vBy (encs ns)), vlit (.int .i64 0)]) := by
  have hpl : (pNats ns).length = ns.length := by simp [pNats]
  refine pure_of_body Try.func85 rfl (by simp [Try.f85]) ?_; rw [Try.ntmps85, Try.results85]; intro w0 G0
  (repeat' (first | refine thenL_n ?_ | refine thenL_r ?_ | refine thenL_x ?_ | refine blockL_n ?_ | refine blockL_r ?_ | refine blockL_x ?_ | refine blockL_y rfl ?_ | refine awp_seq ?_ | refine awp_block ?_ | refine awp_ret ?_ | refine awp_exit ?_ | refine awp_skip ?_ | exact absurd hcond (by decide) | (first | (refine awp_txt ?_; refine runs_to [] (by simp only [go_sem, hpl]; rfl) ?_) | (refine awp_draw mixed ?_; refine runs_to [] (by simp only [go_sem, hpl]; rfl) ?_)) | refine runD_nil ⟨by kernel_rfl, ?_⟩ | refine runD_nil ?_ | (refine awp_cond (b := _) (by simp only [go_sem, evB, hpl]; rfl) (fun hcond => ?_) (fun hcond => ?_))))
  refine awp_loop (fun i : Nat => [(.slot 7, sT (vInts (pNats ns))), (.slot 8, sI ns.length), (.slot 4, sR 40), (.vec 40, byV (encs (ns.take i))), (.slot 9, sI i)]) (fun i => i ≤ ns.length) (fun i => ns.length - i) 0 (Nat.zero_le _) (Imp.trans (Imp.adopt 4 40 1 5 (by simp only [go_sem]) (by decide) (by simp only [go_sem])) (by refine Imp.of_in ?_; simp only [go_sem, encs, List.take_zero, List.flatten_nil, List.map_nil, Int.natCast_zero])) ?_
  intro i hi
  by_cases hlt : (i : Int) < ns.length
  · have hil : i < ns.length := by omega
    have hx : (pNats ns)[i]? = some (ns[i] : Int) := by simp [pNats, List.getElem?_eq_getElem hil]
    have hts : ns.take (i + 1) = ns.take i ++ [ns[i]] := List.take_succ_eq_append_getElem hil
    have hxb := h ns[i] (List.getElem_mem _)
    have hel := encs_len (ns.take i) fun m hm => h m (List.mem_of_mem_take hm)
    have htl : (ns.take i).length ≤ 20 := by rw [List.length_take]; omega
    generalize ns[i] = x at hx hts hxb
    have hw := up i (by omega)
    have hfin : encs (ns.take (i + 1)) = encs (ns.take i) ++ encN x := by rw [hts, encs_snoc]
    have kw114 := s114 (encs (ns.take i)) (by omega) x hxb
    have hok : numOK (x : Int) = true := by simp [numOK]; omega
    generalize encs (ns.take i) = z at hfin kw114
    (repeat' (first | refine thenL_n ?_ | refine thenL_r ?_ | refine thenL_x ?_ | refine blockL_n ?_ | refine blockL_r ?_ | refine blockL_x ?_ | refine blockL_y rfl ?_ | refine awp_seq ?_ | refine awp_block ?_ | refine awp_ret ?_ | refine awp_exit ?_ | refine awp_skip ?_ | exact absurd hcond (by decide) | (first | (refine awp_txt ?_; refine runs_to [] (by simp only [go_sem, hlt, hx, hw, hok]; rfl) ?_) | (refine awp_draw mixed ?_; refine runs_to [] (by simp only [go_sem, hlt, hx, hw, hok]; rfl) ?_)) | refine runD_nil ⟨by kernel_rfl, ?_⟩ | refine runD_nil ?_ | (refine runD_call (c113 _) cb113 (by rfl) (by simp only [go_sem, hlt, hx, hw, hok]; rfl) (by ((repeat' (first | exact All2.nil | refine All2.cons ?_ ?_ | exact SubV.one (SubT.same _) | exact SubV.one (SubT.nil _) | refine SubV.agg ?_ | exact SubT.same _ | exact SubT.nil _)); first | done | fail)) ?_; refine runs_to [] (by simp only [go_sem, hlt, hx, hw, hok]; rfl) ?_) | (refine runD_does [(100000, 40)] [19] (kw114) cb114 (by rfl) (.inl (by simp only [go_sem, hlt, hx, hw, hok]; rfl)) (by simp only [go_sem, ren, dels, adds, rn, At.rn, V1.rn, SV.rn, Cont.rn, Loc.rn, news, vals2, keys2, namesB, locKeys, injOn, noSlots, List.all, List.any, hlt, hx, hw, hok]; rfl) (by first | kernel_rfl | rfl) (by simp only [go_sem, ren, dels, adds, rn, At.rn, V1.rn, SV.rn, Cont.rn, Loc.rn, news, vals2, keys2, namesB, locKeys, injOn, noSlots, List.all, List.any, hlt, hx, hw, hok]; ((repeat' (first | exact All2.nil | refine All2.cons ?_ ?_ | exact SubW.one (SubA.same _) | exact SubW.one (SubA.nil _) | exact SubW.one (SubA.ptr _) | refine SubW.agg ?_ | exact SubA.same _ | exact SubA.nil _ | exact SubA.ptr _)); first | done | fail)) (by simp only [go_sem, ren, dels, adds, rn, At.rn, V1.rn, SV.rn, Cont.rn, Loc.rn, news, vals2, keys2, namesB, locKeys, injOn, noSlots, List.all, List.any, hlt, hx, hw, hok]; (repeat' (first | exact trivial | refine And.intro rfl ?_)); first | done | fail) (by simp only [go_sem, ren, dels, adds, rn, At.rn, V1.rn, SV.rn, Cont.rn, Loc.rn, news, vals2, keys2, namesB, locKeys, injOn, noSlots, List.all, List.any, hlt, hx, hw, hok]; (repeat' (first | exact trivial | refine And.intro rfl ?_)); first | done | fail) ?_; simp only [go_sem, ren, dels, adds, rn, At.rn, V1.rn, SV.rn, Cont.rn, Loc.rn, news, vals2, keys2, namesB, locKeys, injOn, noSlots, List.all, List.any, hlt, hx, hw, hok]; refine runs_to [] (by simp only [go_sem, hlt, hx, hw, hok]; rfl) ?_) | (refine awp_cond (b := _) (by simp only [go_sem, evB, hlt, hx, hw, hok]; rfl) (fun hcond => ?_) (fun hcond => ?_))))
    refine ⟨i + 1, by omega, by omega, (by refine Imp.back 18 40 (by simp only [go_sem, renL, Loc.ren, Cont.ren, SV.ren, V1.ren, At.ren,  hfin]) (by simp only [go_sem, renL, Loc.ren, Cont.ren, SV.ren, V1.ren, At.ren,  hfin]) (by simp only [go_sem, renL, Loc.ren, Cont.ren, SV.ren, V1.ren, At.ren,  hfin]) (by decide) (by decide) ?_; refine Imp.of_in ?_; simp only [go_sem, renL, Loc.ren, Cont.ren, SV.ren, V1.ren, At.ren,  hfin])⟩
  · have hta : ns.take i = ns := by rw [show i = ns.length by omega, List.take_length]
    rw [hta]
    ((repeat' (first | refine thenL_n ?_ | refine thenL_r ?_ | refine thenL_x ?_ | refine blockL_n ?_ | refine blockL_r ?_ | refine blockL_x ?_ | refine blockL_y rfl ?_ | refine awp_seq ?_ | refine awp_block ?_ | refine awp_ret ?_ | refine awp_exit ?_ | refine awp_skip ?_ | exact absurd hcond (by decide) | (first | (refine awp_txt ?_; refine runs_to [] (by simp only [go_sem, hlt]; rfl) ?_) | (refine awp_draw mixed ?_; refine runs_to [] (by simp only [go_sem, hlt]; rfl) ?_)) | refine runD_nil ⟨by kernel_rfl, ?_⟩ | refine runD_nil ?_ | (refine awp_cond (b := _) (by simp only [go_sem, evB, hlt]; rfl) (fun hcond => ?_) (fun hcond => ?_)))); all_goals (refine leaves_ok (by first | exact Or.inl rfl | exact Or.inr rfl) (by simp only [go_sem, resAll, resL, packL, vecsOf, freezeAll, freezeL, hlt]; rfl) ?_; (first | refine SubR.v ?_ | refine SubR.tup ?_); ((repeat' (first | exact All2.nil | refine All2.cons ?_ ?_ | exact SubV.one (SubT.same _) | exact SubV.one (SubT.nil _) | refine SubV.agg ?_ | exact SubT.same _ | exact SubT.nil _)); first | done | fail)))
end Go.Proofs.Ytbohgpdpglfepaa
