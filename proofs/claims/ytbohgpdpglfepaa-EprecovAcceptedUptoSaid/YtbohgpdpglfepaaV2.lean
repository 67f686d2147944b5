import Derived.Test.YtbohgpdpglfepaaV1
set_option maxHeartbeats 4000000
set_option maxRecDepth 10000
set_option linter.unusedVariables false
set_option linter.unusedSimpArgs false
namespace Go.Proofs.Ytbohgpdpglfepaa
open Go.AM Go.RowKit
attribute [local irreducible] AWP thenL blockL AM.Leaves LeavesO RunD
attribute [local go_sem] runs stepR actF inF frzA frzW lastW act act1 actPick actNil actBin
  actUn actConv actExtract actFieldAddr actField actAlloc keysOf actBox actLoad treesOf actStore actIndex
  actLen actMx srcL actAppend actMake actBuild actBuildSlice boundL actSlice actCall actEqS isStruct
  isSlice actText actCopy litsOf kindsOK fieldsPlain eqAll eqop dstB dstN boolS litB
  litV sv binv unv lits takeC cellsR trees cellsW mxv repl parts
  fillAt fillRows V1.cs mkV ev evr AM.look put del applyL delD wrD
  undefS SV.to V1.to At.to keysL notIn freshKey PV.up PR.up entry entryV evp
  isAt actPtrNil capsL actFunc sameV sameVs pureCtx doc mkVar AM.Loc.key Cont.keys SV.keys
  V1.keys At.keys Cont.sub SV.sub V1.sub At.sub guardR argsL callR Nat.blt_eq Nat.blt Nat.ble
  Nat.beq_eq_true_eq beq_self_eq_true Array.toList List.map List.append_eq List.nil_append List.cons_append List.append_nil List.append_assoc Bool.and_eq_true decide_true decide_false
  decide_eq_true_eq Bool.not_true Bool.not_false reduceCtorEq if_true if_false ite_true ite_false reduceIte AM.Loc.slot.injEq AM.Loc.cell.injEq AM.Loc.vec.injEq
  List.getElem?_cons_zero List.getElem?_cons_succ List.getElem?_nil Option.map_some Option.map_none Option.toList List.flatMap_nil List.flatMap_cons Bool.and_true Bool.true_and Bool.and_false Bool.false_and
  Bool.true_eq_false Bool.false_eq_true Nat.reduceBEq Nat.reduceEqDiff bool_beq_tt bool_beq_ff bool_beq_tf bool_beq_ft List.length_cons List.length_nil List.drop List.take
  List.drop_zero List.take_zero List.all_cons List.all_nil Value.oneCell' Nat.zero_add Nat.reduceAdd Nat.reduceMul Nat.reduceSub Nat.reduceLT Nat.reduceLeDiff Int.reduceLT
  Int.reduceLE Int.reduceEq Int.reduceBEq Int.reduceBNe Int.reduceAdd Int.reduceSub Int.reduceMul Int.reduceNeg Int.reduceToNat Nat.succ_ne_zero List.replicate and_true
  true_and and_false false_and and_self ge_iff_le gt_iff_lt bne_self_eq_false List.zip_cons_cons List.zip_nil_left List.zip List.zipWith Int.natCast_nonneg
  Int.toNat_natCast List.getElem?_map List.length_map sT sI sB sR sP rV AllIn Int.toNat_zero Int.ofNat_zero
  Int.natCast_zero Nat.le_refl List.mapM_cons List.mapM_nil Option.bind_eq_bind Option.bind_some Option.pure_def List.set_cons_zero List.set_cons_succ List.length_set tt2 tt3
  tt4 tt5 tt9 tt12 tt21 tt22 tt23 tt24 tt25 tt36 tt37 tt43
  tt44 tt51 tt52 tt53 tt59 tt67 tt68 tt69 tt74 tt75 tt76 tt77
  tt78 tt79 tt89 tt92 tt95 tt96 tt97 tt98 tt99 tt102 tt103 tt106
  tt107 tt108 tt114 tt115 tt116 tt117 tt118 tt119 tt120 tt122 tt124 tt125
  tt126 tt127 tt130 tt131 tt132 tt133 tt134 tt135 tt137 tt138 tt139 tt147
  tt148 tt149 tt159 tt164 tt165 tt167 tt168 tt169 tt170 tt171 tt190 tt191
  tt194 tt200 tt208 tt212
attribute [local go_sem] vlit bal rInt rBool vInts pInts vvInts vPairs att vAtts vBy cm iv vvBy lI lB rpL vRp

def wit (q : RP) : Bool := q.x.st == 1 && q.x.same && q.x.v1 == 0
theorem c120 (q : RP) : Pure Try.prog 120 [.agg (rpL q)] (rBool (wit q)) := by
  cases h1 : q.x.st == 1 with
  | false =>
    have hf : wit q = false := by simp [wit, h1]
    rw [hf]
    refine pure_of_body Try.func120 rfl (by simp [Try.f120]) ?_; rw [Try.ntmps120, Try.results120]; intro w0 G0
    ((repeat' (first | refine thenL_n ?_ | refine thenL_r ?_ | refine thenL_x ?_ | refine blockL_n ?_ | refine blockL_r ?_ | refine blockL_x ?_ | refine blockL_y rfl ?_ | refine awp_seq ?_ | refine awp_block ?_ | refine awp_ret ?_ | refine awp_exit ?_ | refine awp_skip ?_ | exact absurd hcond (by decide) | (first | (refine awp_txt ?_; refine runs_to [] (by simp only [go_sem, h1]; rfl) ?_) | (refine awp_draw mixed ?_; refine runs_to [] (by simp only [go_sem, h1]; rfl) ?_)) | refine runD_nil ⟨by kernel_rfl, ?_⟩ | refine runD_nil ?_ | (refine awp_cond (b := _) (by simp only [go_sem, evB, h1]; rfl) (fun hcond => ?_) (fun hcond => ?_)))); all_goals (refine leaves_ok (by first | exact Or.inl rfl | exact Or.inr rfl) (by simp only [go_sem, resAll, resL, packL, vecsOf, freezeAll, freezeL, h1]; rfl) ?_; (first | refine SubR.v ?_ | refine SubR.tup ?_); ((repeat' (first | exact All2.nil | refine All2.cons ?_ ?_ | exact SubV.one (SubT.same _) | exact SubV.one (SubT.nil _) | refine SubV.agg ?_ | exact SubT.same _ | exact SubT.nil _)); first | done | fail)))
  | true =>
    cases h2 : q.x.same with
    | false =>
      have hf : wit q = false := by simp [wit, h2]
      rw [hf]
      refine pure_of_body Try.func120 rfl (by simp [Try.f120]) ?_; rw [Try.ntmps120, Try.results120]; intro w0 G0
      ((repeat' (first | refine thenL_n ?_ | refine thenL_r ?_ | refine thenL_x ?_ | refine blockL_n ?_ | refine blockL_r ?_ | refine blockL_x ?_ | refine blockL_y rfl ?_ | refine awp_seq ?_ | refine awp_block ?_ | refine awp_ret ?_ | refine awp_exit ?_ | refine awp_skip ?_ | exact absurd hcond (by decide) | (first | (refine awp_txt ?_; refine runs_to [] (by simp only [go_sem, h1, h2]; rfl) ?_) | (refine awp_draw mixed ?_; refine runs_to [] (by simp only [go_sem, h1, h2]; rfl) ?_)) | refine runD_nil ⟨by kernel_rfl, ?_⟩ | refine runD_nil ?_ | (refine awp_cond (b := _) (by simp only [go_sem, evB, h1, h2]; rfl) (fun hcond => ?_) (fun hcond => ?_)))); all_goals (refine leaves_ok (by first | exact Or.inl rfl | exact Or.inr rfl) (by simp only [go_sem, resAll, resL, packL, vecsOf, freezeAll, freezeL, h1, h2]; rfl) ?_; (first | refine SubR.v ?_ | refine SubR.tup ?_); ((repeat' (first | exact All2.nil | refine All2.cons ?_ ?_ | exact SubV.one (SubT.same _) | exact SubV.one (SubT.nil _) | refine SubV.agg ?_ | exact SubT.same _ | exact SubT.nil _)); first | done | fail)))
    | true =>
      have hf : wit q = (q.x.v1 == 0) := by simp [wit, h1, h2]
      rw [hf]
      refine pure_of_body Try.func120 rfl (by simp [Try.f120]) ?_; rw [Try.ntmps120, Try.results120]; intro w0 G0
      ((repeat' (first | refine thenL_n ?_ | refine thenL_r ?_ | refine thenL_x ?_ | refine blockL_n ?_ | refine blockL_r ?_ | refine blockL_x ?_ | refine blockL_y rfl ?_ | refine awp_seq ?_ | refine awp_block ?_ | refine awp_ret ?_ | refine awp_exit ?_ | refine awp_skip ?_ | exact absurd hcond (by decide) | (first | (refine awp_txt ?_; refine runs_to [] (by simp only [go_sem, h1, h2]; rfl) ?_) | (refine awp_draw mixed ?_; refine runs_to [] (by simp only [go_sem, h1, h2]; rfl) ?_)) | refine runD_nil ⟨by kernel_rfl, ?_⟩ | refine runD_nil ?_ | (refine awp_cond (b := _) (by simp only [go_sem, evB, h1, h2]; rfl) (fun hcond => ?_) (fun hcond => ?_)))); all_goals (refine leaves_ok (by first | exact Or.inl rfl | exact Or.inr rfl) (by simp only [go_sem, resAll, resL, packL, vecsOf, freezeAll, freezeL, h1, h2]; rfl) ?_; (first | refine SubR.v ?_ | refine SubR.tup ?_); ((repeat' (first | exact All2.nil | refine All2.cons ?_ ?_ | exact SubV.one (SubT.same _) | exact SubV.one (SubT.nil _) | refine SubV.agg ?_ | exact SubT.same _ | exact SubT.nil _)); first | done | fail)))

theorem c121 (l : List RP) (n leader : Int) (hl : l.length ≤ 4611686018427387903) : Pure Try.prog 121 [.agg [vRp l, .lit (.int .i64 n), .lit (.int .i64 leader)]] (rBool (!l.any fun q => q.f == leader)) := by
  have k98 := c98 124 (.ptr [vRp l, .lit (.int .i64 n), .lit (.int .i64 leader)]) cb124 (fun q => q.f == leader) l hl (fun q _ => c124 q _ n leader)
  refine pure_of_body Try.func121 rfl (by simp [Try.f121]) ?_; rw [Try.ntmps121, Try.results121]; intro w0 G0
  (repeat' (first | refine thenL_n ?_ | refine thenL_r ?_ | refine thenL_x ?_ | refine blockL_n ?_ | refine blockL_r ?_ | refine blockL_x ?_ | refine blockL_y rfl ?_ | refine awp_seq ?_ | refine awp_block ?_ | refine awp_ret ?_ | refine awp_exit ?_ | refine awp_skip ?_ | exact absurd hcond (by decide) | ((fail_if_success (refine isReg 1 ?_)); first | (refine awp_txt ?_; refine runs_to [] (by simp only [go_sem]; rfl) ?_) | (refine awp_draw mixed ?_; refine runs_to [] (by simp only [go_sem]; rfl) ?_)) | refine runD_nil ⟨by kernel_rfl, ?_⟩ | refine runD_nil ?_ | (refine awp_cond (b := _) (by simp only [go_sem, evB]; rfl) (fun hcond => ?_) (fun hcond => ?_))))
  refine awp_imp (Imp.fixE 1 3 (by decide) (by simp only [go_sem, fixL, Cont.fix, SV.fix, V1.fix, At.fix, cellsT, renL, Loc.ren, Cont.ren, SV.ren, V1.ren, At.ren, freezeL]; rfl) (by decide) (by simp only [go_sem, fixL, Cont.fix, SV.fix, V1.fix, At.fix, cellsT, renL, Loc.ren, Cont.ren, SV.ren, V1.ren, At.ren, freezeL]; rfl)) ?_
  ((repeat' (first | refine thenL_n ?_ | refine thenL_r ?_ | refine thenL_x ?_ | refine blockL_n ?_ | refine blockL_r ?_ | refine blockL_x ?_ | refine blockL_y rfl ?_ | refine awp_seq ?_ | refine awp_block ?_ | refine awp_ret ?_ | refine awp_exit ?_ | refine awp_skip ?_ | exact absurd hcond (by decide) | (first | (refine awp_txt ?_; refine runs_to [] (by simp only [go_sem]; rfl) ?_) | (refine awp_draw mixed ?_; refine runs_to [] (by simp only [go_sem]; rfl) ?_)) | refine runD_nil ⟨by kernel_rfl, ?_⟩ | refine runD_nil ?_ | (refine runD_call (k98) cb98 (by rfl) (by simp only [go_sem]; rfl) (by ((repeat' (first | exact All2.nil | refine All2.cons ?_ ?_ | exact SubV.one (SubT.same _) | exact SubV.one (SubT.nil _) | refine SubV.agg ?_ | exact SubT.same _ | exact SubT.nil _)); first | done | fail)) ?_; refine runs_to [] (by simp only [go_sem]; rfl) ?_) | (refine awp_cond (b := _) (by simp only [go_sem, evB]; rfl) (fun hcond => ?_) (fun hcond => ?_)))); all_goals (refine leaves_ok (by first | exact Or.inl rfl | exact Or.inr rfl) (by simp only [go_sem, resAll, resL, packL, vecsOf, freezeAll, freezeL]; rfl) ?_; (first | refine SubR.v ?_ | refine SubR.tup ?_); ((repeat' (first | exact All2.nil | refine All2.cons ?_ ?_ | exact SubV.one (SubT.same _) | exact SubV.one (SubT.nil _) | refine SubV.agg ?_ | exact SubT.same _ | exact SubT.nil _)); first | done | fail)))

def in00 : IN := ⟨0, 0, 0, 0, 0, 0, 0, 0, ⟨#[]⟩, [], 0, [], false⟩
def rp0 : RP := ⟨0, in00⟩
def rK (κ : Nat) (q : RP) : L := [(.cell κ 0, .c (lI q.f)), (.cell κ 1, .c (lI q.x.r)), (.cell κ 2, .c (lI q.x.n)), (.cell κ 3, .c (lI q.x.st)), (.cell κ 4, .c (lI q.x.p1)), (.cell κ 5, .c (lI q.x.p2)), (.cell κ 6, .c (lI q.x.v1)), (.cell κ 7, .c (lI q.x.v2)), (.cell κ 8, .c (lI q.x.k)), (.cell κ 9, .c (.t (.lit (.string q.x.h)))), (.cell κ 10, .c (.t (vBy q.x.c))), (.cell κ 11, .c (lI q.x.s)), (.cell κ 12, .c (.t (vInts q.x.d))), (.cell κ 13, .c (lB q.x.same))]
attribute [local go_sem] rK

/-- The first one of the replies that pass with the greatest vote. -/
def pk1 (p : RP → Bool) (b : Option RP) (q : RP) : Option RP :=
  if p q then match b with
    | none => some q
    | some z => if less z.x.v1 z.x.v2 q.x.v1 q.x.v2 then some q else some z
  else b
def pk (p : RP → Bool) (l : List RP) : Option RP := l.foldl (pk1 p) none

theorem pk1_no {p : RP → Bool} {b : Option RP} {q : RP} (h : p q = false) : pk1 p b q = b := by simp [pk1, h]
theorem pk1_first {p : RP → Bool} {q : RP} (h : p q = true) : pk1 p none q = some q := by simp [pk1, h]
theorem pk1_lt {p : RP → Bool} {b q : RP} (h : p q = true) (hl : less b.x.v1 b.x.v2 q.x.v1 q.x.v2 = true) : pk1 p (some b) q = some q := by simp [pk1, h, hl]
theorem pk1_ge {p : RP → Bool} {b q : RP} (h : p q = true) (hl : less b.x.v1 b.x.v2 q.x.v1 q.x.v2 = false) : pk1 p (some b) q = some b := by simp [pk1, h, hl]
theorem maj_le (n : Int) : 0 ≤ maj n ∧ maj n ≤ 4 := by
  unfold maj
  split <;> omega

theorem c102 (f : FuncId) (c : T) (cb9999 : callB Try.prog f = true) (p : RP → Bool) (l : List RP) (hl : l.length ≤ 4611686018427387903) (hp : ∀ q, q ∈ l → Pure Try.prog f [.agg (rpL q), .one c] (rBool (p q))) :
    Pure Try.prog 102 [.one (vRp l), .one (.fn f [c])] (.tup [.agg (rpL ((pk p l).getD rp0)), vlit (.bool (pk p l).isSome)]) := by
  refine pure_of_body Try.func102 rfl (by simp [Try.f102]) ?_; rw [Try.ntmps102, Try.results102]; intro w0 G0
  (repeat' (first | refine thenL_n ?_ | refine thenL_r ?_ | refine thenL_x ?_ | refine blockL_n ?_ | refine blockL_r ?_ | refine blockL_x ?_ | refine blockL_y rfl ?_ | refine awp_seq ?_ | refine awp_block ?_ | refine awp_ret ?_ | refine awp_exit ?_ | refine awp_skip ?_ | exact absurd hcond (by decide) | (first | (refine awp_txt ?_; refine runs_to [] (by simp only [go_sem]; rfl) ?_) | (refine awp_draw mixed ?_; refine runs_to [] (by simp only [go_sem]; rfl) ?_)) | refine runD_nil ⟨by kernel_rfl, ?_⟩ | refine runD_nil ?_ | (refine awp_cond (b := _) (by simp only [go_sem, evB]; rfl) (fun hcond => ?_) (fun hcond => ?_))))
  refine awp_loop (fun a : Nat × RP × Bool => [(.slot 1, sT (.fn f [c])), (.slot 4, sP 4), (.cell 4 0, .c (lI 0)), (.cell 4 1, .c (lI 0)), (.cell 4 2, .c (lI 0)), (.cell 4 3, .c (lI 0)), (.cell 4 4, .c (lI 0)), (.cell 4 5, .c (lI 0)), (.cell 4 6, .c (lI 0)), (.cell 4 7, .c (lI 0)), (.cell 4 8, .c (lI 0)), (.cell 4 9, .c (.t (.lit (.string ⟨#[]⟩)))), (.cell 4 10, .c (.t (.lit (.slice none 0 0)))), (.cell 4 11, .c (lI 0)), (.cell 4 12, .c (.t (.lit (.slice none 0 0)))), (.cell 4 13, .c (lB false)), (.slot 6, sP 6)] ++ rK 6 a.2.1 ++ [(.slot 7, sB a.2.2), (.slot 10, sT (vRp l)), (.slot 11, sI l.length), (.slot 12, sI a.1)]) (fun a => a.1 ≤ l.length ∧ pk p (l.take a.1) = (if a.2.2 then some a.2.1 else none) ∧ (a.2.2 = false → a.2.1 = rp0)) (fun a => l.length - a.1) (0, rp0, false) ⟨Nat.zero_le _, rfl, fun _ => rfl⟩ (Imp.trans (Imp.coeC 6 10 1 (by simp only [go_sem])) (Imp.trans (Imp.coeC 6 12 1 (by simp only [go_sem])) (by refine Imp.of_in ?_; simp only [go_sem, rp0, in00, Int.natCast_zero]))) ?_
  rintro ⟨i, b, fd⟩ ⟨hi, hpk, hfd⟩
  simp only at hi hpk hfd
  simp only [rK, List.cons_append, List.nil_append]
  by_cases hlt : (i : Int) < l.length
  · have hil : i < l.length := by omega
    have hxi : l[i]? = some l[i] := List.getElem?_eq_getElem hil
    have kww9999 := hp l[i] (List.getElem_mem _)
    have hfs : pk p (l.take (i + 1)) = pk1 p (pk p (l.take i)) l[i] := foldS (pk1 p) none l i hil
    generalize l[i] = q at hxi kww9999 hfs
    have hw := up i (by omega)
    cases hq : p q with
    | false =>
      rw [hq] at kww9999
      have hn : pk p (l.take (i + 1)) = (if fd then some b else none) := by rw [hfs, pk1_no hq, hpk]
      (repeat' (first | refine thenL_n ?_ | refine thenL_r ?_ | refine thenL_x ?_ | refine blockL_n ?_ | refine blockL_r ?_ | refine blockL_x ?_ | refine blockL_y rfl ?_ | refine awp_seq ?_ | refine awp_block ?_ | refine awp_ret ?_ | refine awp_exit ?_ | refine awp_skip ?_ | exact absurd hcond (by decide) | (first | (refine awp_txt ?_; refine runs_to [] (by simp only [go_sem, hlt, hil, hxi, hw]; rfl) ?_) | (refine awp_draw mixed ?_; refine runs_to [] (by simp only [go_sem, hlt, hil, hxi, hw]; rfl) ?_)) | refine runD_nil ⟨by kernel_rfl, ?_⟩ | refine runD_nil ?_ | (refine runD_lend (kww9999) cb9999 (by rfl) (.inr (by simp only [go_sem, dynR, hlt, hil, hxi, hw]; rfl)) (by simp only [go_sem, lendL, lendV, lendA, lendAs, hlt, hil, hxi, hw]; rfl) (by ((repeat' (first | exact All2.nil | refine All2.cons ?_ ?_ | exact SubV.one (SubT.same _) | exact SubV.one (SubT.nil _) | refine SubV.agg ?_ | exact SubT.same _ | exact SubT.nil _)); first | done | fail)) (by rfl) ?_; refine runs_to [] (by simp only [go_sem, hlt, hil, hxi, hw]; rfl) ?_) | (refine awp_cond (b := _) (by simp only [go_sem, evB, hlt, hil, hxi, hw]; rfl) (fun hcond => ?_) (fun hcond => ?_))))
      exact ⟨(i + 1, b, fd), ⟨by simp only; omega, hn, hfd⟩, by simp only; omega, (by refine Imp.of_in ?_; simp only [go_sem])⟩
    | true =>
      rw [hq] at kww9999
      cases fd with
      | false =>
        have hn : pk p (l.take (i + 1)) = some q := by rw [hfs, hpk]; exact pk1_first hq
        (repeat' (first | refine thenL_n ?_ | refine thenL_r ?_ | refine thenL_x ?_ | refine blockL_n ?_ | refine blockL_r ?_ | refine blockL_x ?_ | refine blockL_y rfl ?_ | refine awp_seq ?_ | refine awp_block ?_ | refine awp_ret ?_ | refine awp_exit ?_ | refine awp_skip ?_ | exact absurd hcond (by decide) | (first | (refine awp_txt ?_; refine runs_to [] (by simp only [go_sem, hlt, hil, hxi, hw]; rfl) ?_) | (refine awp_draw mixed ?_; refine runs_to [] (by simp only [go_sem, hlt, hil, hxi, hw]; rfl) ?_)) | refine runD_nil ⟨by kernel_rfl, ?_⟩ | refine runD_nil ?_ | (refine runD_lend (kww9999) cb9999 (by rfl) (.inr (by simp only [go_sem, dynR, hlt, hil, hxi, hw]; rfl)) (by simp only [go_sem, lendL, lendV, lendA, lendAs, hlt, hil, hxi, hw]; rfl) (by ((repeat' (first | exact All2.nil | refine All2.cons ?_ ?_ | exact SubV.one (SubT.same _) | exact SubV.one (SubT.nil _) | refine SubV.agg ?_ | exact SubT.same _ | exact SubT.nil _)); first | done | fail)) (by rfl) ?_; refine runs_to [] (by simp only [go_sem, hlt, hil, hxi, hw]; rfl) ?_) | (refine awp_cond (b := _) (by simp only [go_sem, evB, hlt, hil, hxi, hw]; rfl) (fun hcond => ?_) (fun hcond => ?_))))
        exact ⟨(i + 1, q, true), ⟨by simp only; omega, hn, by simp⟩, by simp only; omega, (by refine Imp.of_in ?_; simp only [go_sem])⟩
      | true =>
        cases hls : less b.x.v1 b.x.v2 q.x.v1 q.x.v2 with
        | true =>
          have hn : pk p (l.take (i + 1)) = some q := by rw [hfs, hpk]; exact pk1_lt hq hls
          (repeat' (first | refine thenL_n ?_ | refine thenL_r ?_ | refine thenL_x ?_ | refine blockL_n ?_ | refine blockL_r ?_ | refine blockL_x ?_ | refine blockL_y rfl ?_ | refine awp_seq ?_ | refine awp_block ?_ | refine awp_ret ?_ | refine awp_exit ?_ | refine awp_skip ?_ | exact absurd hcond (by decide) | (first | (refine awp_txt ?_; refine runs_to [] (by simp only [go_sem, hlt, hil, hxi, hw, hls]; rfl) ?_) | (refine awp_draw mixed ?_; refine runs_to [] (by simp only [go_sem, hlt, hil, hxi, hw, hls]; rfl) ?_)) | refine runD_nil ⟨by kernel_rfl, ?_⟩ | refine runD_nil ?_ | (refine runD_lend (kww9999) cb9999 (by rfl) (.inr (by simp only [go_sem, dynR, hlt, hil, hxi, hw, hls]; rfl)) (by simp only [go_sem, lendL, lendV, lendA, lendAs, hlt, hil, hxi, hw, hls]; rfl) (by ((repeat' (first | exact All2.nil | refine All2.cons ?_ ?_ | exact SubV.one (SubT.same _) | exact SubV.one (SubT.nil _) | refine SubV.agg ?_ | exact SubT.same _ | exact SubT.nil _)); first | done | fail)) (by rfl) ?_; refine runs_to [] (by simp only [go_sem, hlt, hil, hxi, hw, hls]; rfl) ?_) | (refine runD_call (c26 _ _ _ _) cb26 (by rfl) (by simp only [go_sem, hlt, hil, hxi, hw, hls]; rfl) (by ((repeat' (first | exact All2.nil | refine All2.cons ?_ ?_ | exact SubV.one (SubT.same _) | exact SubV.one (SubT.nil _) | refine SubV.agg ?_ | exact SubT.same _ | exact SubT.nil _)); first | done | fail)) ?_; refine runs_to [] (by simp only [go_sem, hlt, hil, hxi, hw, hls]; rfl) ?_) | (refine awp_cond (b := _) (by simp only [go_sem, evB, hlt, hil, hxi, hw, hls]; rfl) (fun hcond => ?_) (fun hcond => ?_))))
          exact ⟨(i + 1, q, true), ⟨by simp only; omega, hn, by simp⟩, by simp only; omega, (by refine Imp.of_in ?_; simp only [go_sem])⟩
        | false =>
          have hn : pk p (l.take (i + 1)) = some b := by rw [hfs, hpk]; exact pk1_ge hq hls
          (repeat' (first | refine thenL_n ?_ | refine thenL_r ?_ | refine thenL_x ?_ | refine blockL_n ?_ | refine blockL_r ?_ | refine blockL_x ?_ | refine blockL_y rfl ?_ | refine awp_seq ?_ | refine awp_block ?_ | refine awp_ret ?_ | refine awp_exit ?_ | refine awp_skip ?_ | exact absurd hcond (by decide) | (first | (refine awp_txt ?_; refine runs_to [] (by simp only [go_sem, hlt, hil, hxi, hw, hls]; rfl) ?_) | (refine awp_draw mixed ?_; refine runs_to [] (by simp only [go_sem, hlt, hil, hxi, hw, hls]; rfl) ?_)) | refine runD_nil ⟨by kernel_rfl, ?_⟩ | refine runD_nil ?_ | (refine runD_lend (kww9999) cb9999 (by rfl) (.inr (by simp only [go_sem, dynR, hlt, hil, hxi, hw, hls]; rfl)) (by simp only [go_sem, lendL, lendV, lendA, lendAs, hlt, hil, hxi, hw, hls]; rfl) (by ((repeat' (first | exact All2.nil | refine All2.cons ?_ ?_ | exact SubV.one (SubT.same _) | exact SubV.one (SubT.nil _) | refine SubV.agg ?_ | exact SubT.same _ | exact SubT.nil _)); first | done | fail)) (by rfl) ?_; refine runs_to [] (by simp only [go_sem, hlt, hil, hxi, hw, hls]; rfl) ?_) | (refine runD_call (c26 _ _ _ _) cb26 (by rfl) (by simp only [go_sem, hlt, hil, hxi, hw, hls]; rfl) (by ((repeat' (first | exact All2.nil | refine All2.cons ?_ ?_ | exact SubV.one (SubT.same _) | exact SubV.one (SubT.nil _) | refine SubV.agg ?_ | exact SubT.same _ | exact SubT.nil _)); first | done | fail)) ?_; refine runs_to [] (by simp only [go_sem, hlt, hil, hxi, hw, hls]; rfl) ?_) | (refine awp_cond (b := _) (by simp only [go_sem, evB, hlt, hil, hxi, hw, hls]; rfl) (fun hcond => ?_) (fun hcond => ?_))))
          exact ⟨(i + 1, b, true), ⟨by simp only; omega, hn, by simp⟩, by simp only; omega, (by refine Imp.of_in ?_; simp only [go_sem])⟩
  · have hta : l.take i = l := by rw [show i = l.length by omega, List.take_length]
    rw [hta] at hpk
    rw [hpk]
    cases fd with
    | true =>
      simp only [if_true, Option.getD_some, Option.isSome_some]
      ((repeat' (first | refine thenL_n ?_ | refine thenL_r ?_ | refine thenL_x ?_ | refine blockL_n ?_ | refine blockL_r ?_ | refine blockL_x ?_ | refine blockL_y rfl ?_ | refine awp_seq ?_ | refine awp_block ?_ | refine awp_ret ?_ | refine awp_exit ?_ | refine awp_skip ?_ | exact absurd hcond (by decide) | (first | (refine awp_txt ?_; refine runs_to [] (by simp only [go_sem, hlt]; rfl) ?_) | (refine awp_draw mixed ?_; refine runs_to [] (by simp only [go_sem, hlt]; rfl) ?_)) | refine runD_nil ⟨by kernel_rfl, ?_⟩ | refine runD_nil ?_ | (refine awp_cond (b := _) (by simp only [go_sem, evB, hlt]; rfl) (fun hcond => ?_) (fun hcond => ?_)))); all_goals (refine leaves_ok (by first | exact Or.inl rfl | exact Or.inr rfl) (by simp only [go_sem, resAll, resL, packL, vecsOf, freezeAll, freezeL, hlt]; rfl) ?_; (first | refine SubR.v ?_ | refine SubR.tup ?_); ((repeat' (first | exact All2.nil | refine All2.cons ?_ ?_ | exact SubV.one (SubT.same _) | exact SubV.one (SubT.nil _) | refine SubV.agg ?_ | exact SubT.same _ | exact SubT.nil _)); first | done | fail)))
    | false =>
      have := hfd rfl
      subst this
      simp only [Bool.false_eq_true, if_false, Option.getD_none, Option.isSome_none]
      ((repeat' (first | refine thenL_n ?_ | refine thenL_r ?_ | refine thenL_x ?_ | refine blockL_n ?_ | refine blockL_r ?_ | refine blockL_x ?_ | refine blockL_y rfl ?_ | refine awp_seq ?_ | refine awp_block ?_ | refine awp_ret ?_ | refine awp_exit ?_ | refine awp_skip ?_ | exact absurd hcond (by decide) | (first | (refine awp_txt ?_; refine runs_to [] (by simp only [go_sem, hlt]; rfl) ?_) | (refine awp_draw mixed ?_; refine runs_to [] (by simp only [go_sem, hlt]; rfl) ?_)) | refine runD_nil ⟨by kernel_rfl, ?_⟩ | refine runD_nil ?_ | (refine awp_cond (b := _) (by simp only [go_sem, evB, hlt]; rfl) (fun hcond => ?_) (fun hcond => ?_)))); all_goals (refine leaves_ok (by first | exact Or.inl rfl | exact Or.inr rfl) (by simp only [go_sem, resAll, resL, packL, vecsOf, freezeAll, freezeL, hlt]; rfl) ?_; (first | refine SubR.v ?_ | refine SubR.tup ?_); ((repeat' (first | exact All2.nil | refine All2.cons ?_ ?_ | exact SubV.one (SubT.same _) | exact SubV.one (SubT.nil _) | refine SubV.agg ?_ | exact SubT.same _ | exact SubT.nil _)); first | done | fail)))

/-- The witnesses' first, if they are enough. -/
def wt (n leader : Int) (k : List RP) : Option RP := if ((k.filter wit).length : Int) = 0 ∨ ((k.filter wit).length : Int) < maj n - 1 ∨ (k.any fun q => q.f == leader) = true then none else (k.filter wit)[0]?

theorem c103 (n leader : Int) (l : List RP) (hl : l.length * 152 ≤ 140737488351232) :
    Pure Try.prog 103 [.agg [vRp l, .lit (.int .i64 n), .lit (.int .i64 leader)]] (.tup [.agg (rpL ((wt n leader l).getD rp0)), vlit (.bool (wt n leader l).isSome)]) := by
  have k121 := c121 l n leader (by omega)
  refine pure_of_body Try.func103 rfl (by simp [Try.f103]) ?_; rw [Try.ntmps103, Try.results103]; intro w0 G0
  (repeat' (first | refine thenL_n ?_ | refine thenL_r ?_ | refine thenL_x ?_ | refine blockL_n ?_ | refine blockL_r ?_ | refine blockL_x ?_ | refine blockL_y rfl ?_ | refine awp_seq ?_ | refine awp_block ?_ | refine awp_ret ?_ | refine awp_exit ?_ | refine awp_skip ?_ | exact absurd hcond (by decide) | (first | (refine awp_txt ?_; refine runs_to [] (by simp only [go_sem]; rfl) ?_) | (refine awp_draw mixed ?_; refine runs_to [] (by simp only [go_sem]; rfl) ?_)) | refine runD_nil ⟨by kernel_rfl, ?_⟩ | refine runD_nil ?_ | (refine awp_cond (b := _) (by simp only [go_sem, evB]; rfl) (fun hcond => ?_) (fun hcond => ?_))))
  refine awp_loop (fun i : Nat => [(.slot 1, sP 1), (.cell 1 0, .c (.t (vRp l))), (.cell 1 1, .c (lI n)), (.cell 1 2, .c (lI leader)), (.slot 2, sP 2), (.cell 2 0, .c (lI 0)), (.cell 2 1, .c (lI 0)), (.cell 2 2, .c (lI 0)), (.cell 2 3, .c (lI 0)), (.cell 2 4, .c (lI 0)), (.cell 2 5, .c (lI 0)), (.cell 2 6, .c (lI 0)), (.cell 2 7, .c (lI 0)), (.cell 2 8, .c (lI 0)), (.cell 2 9, .c (.t (.lit (.string ⟨#[]⟩)))), (.cell 2 10, .c (.t (.lit (.slice none 0 0)))), (.cell 2 11, .c (lI 0)), (.cell 2 12, .c (.t (.lit (.slice none 0 0)))), (.cell 2 13, .c (lB false)), (.slot 4, sR 40), (.vec 40, .r 14 135 (((l.take i).filter wit).map rpL)), (.slot 8, sT (vRp l)), (.slot 9, sI l.length), (.slot 10, sI i)]) (fun i => i ≤ l.length) (fun i => l.length - i) 0 (Nat.zero_le _) (Imp.trans (Imp.adopt 4 40 14 135 (by simp only [go_sem]) (by decide) (by simp only [go_sem])) (by refine Imp.of_in ?_; simp only [go_sem, List.map_nil, List.take_zero, List.filter_nil, Int.natCast_zero])) ?_
  intro i hi
  have hfl : ((l.take i).filter wit).length ≤ i := Nat.le_trans (List.length_filter_le _ _) (by rw [List.length_take]; omega)
  by_cases hlt : (i : Int) < l.length
  · have hil : i < l.length := by omega
    have hxi : l[i]? = some l[i] := List.getElem?_eq_getElem hil
    have hts : l.take (i + 1) = l.take i ++ [l[i]] := List.take_succ_eq_append_getElem hil
    generalize l[i] = q at hxi hts
    have hw := up i (by omega)
    cases hq : wit q with
    | false =>
      have hn : (l.take (i + 1)).filter wit = (l.take i).filter wit := by rw [hts, List.filter_append]; simp [hq]
      (repeat' (first | refine thenL_n ?_ | refine thenL_r ?_ | refine thenL_x ?_ | refine blockL_n ?_ | refine blockL_r ?_ | refine blockL_x ?_ | refine blockL_y rfl ?_ | refine awp_seq ?_ | refine awp_block ?_ | refine awp_ret ?_ | refine awp_exit ?_ | refine awp_skip ?_ | exact absurd hcond (by decide) | (first | (refine awp_txt ?_; refine runs_to [] (by simp only [go_sem, hlt, hil, hxi, hw, hq]; rfl) ?_) | (refine awp_draw mixed ?_; refine runs_to [] (by simp only [go_sem, hlt, hil, hxi, hw, hq]; rfl) ?_)) | refine runD_nil ⟨by kernel_rfl, ?_⟩ | refine runD_nil ?_ | (refine runD_call (c120 _) cb120 (by rfl) (by simp only [go_sem, hlt, hil, hxi, hw, hq]; rfl) (by ((repeat' (first | exact All2.nil | refine All2.cons ?_ ?_ | exact SubV.one (SubT.same _) | exact SubV.one (SubT.nil _) | refine SubV.agg ?_ | exact SubT.same _ | exact SubT.nil _)); first | done | fail)) ?_; refine runs_to [] (by simp only [go_sem, hlt, hil, hxi, hw, hq]; rfl) ?_) | (refine awp_cond (b := _) (by simp only [go_sem, evB, hlt, hil, hxi, hw, hq]; rfl) (fun hcond => ?_) (fun hcond => ?_))))
      exact ⟨i + 1, by omega, by omega, (by refine Imp.of_in ?_; simp only [go_sem, hn])⟩
    | true =>
      have hn : (l.take (i + 1)).filter wit = (l.take i).filter wit ++ [q] := by rw [hts, List.filter_append]; simp [hq]
      generalize (l.take i).filter wit = z at hfl hn
      have hc1 : z.length + 1 ≤ 140737488355328 := by omega
      have hc2 : (z.length + 1) * 152 ≤ 140737488355328 := by omega
      have hmap : List.map rpL (z ++ [q]) = List.map rpL z ++ [rpL q] := by simp
      simp only [rpL, vBy, vInts] at hmap
      (repeat' (first | refine thenL_n ?_ | refine thenL_r ?_ | refine thenL_x ?_ | refine blockL_n ?_ | refine blockL_r ?_ | refine blockL_x ?_ | refine blockL_y rfl ?_ | refine awp_seq ?_ | refine awp_block ?_ | refine awp_ret ?_ | refine awp_exit ?_ | refine awp_skip ?_ | exact absurd hcond (by decide) | (first | (refine awp_txt ?_; refine runs_to [] (by simp only [go_sem, hlt, hil, hxi, hw, hq, hc1, hc2]; rfl) ?_) | (refine awp_draw mixed ?_; refine runs_to [] (by simp only [go_sem, hlt, hil, hxi, hw, hq, hc1, hc2]; rfl) ?_)) | refine runD_nil ⟨by kernel_rfl, ?_⟩ | refine runD_nil ?_ | (refine runD_call (c120 _) cb120 (by rfl) (by simp only [go_sem, hlt, hil, hxi, hw, hq, hc1, hc2]; rfl) (by ((repeat' (first | exact All2.nil | refine All2.cons ?_ ?_ | exact SubV.one (SubT.same _) | exact SubV.one (SubT.nil _) | refine SubV.agg ?_ | exact SubT.same _ | exact SubT.nil _)); first | done | fail)) ?_; refine runs_to [] (by simp only [go_sem, hlt, hil, hxi, hw, hq, hc1, hc2]; rfl) ?_) | (refine awp_cond (b := _) (by simp only [go_sem, evB, hlt, hil, hxi, hw, hq, hc1, hc2]; rfl) (fun hcond => ?_) (fun hcond => ?_))))
      exact ⟨i + 1, by omega, by omega, (by refine Imp.back 19 40 (by simp only [go_sem, renL, Loc.ren, Cont.ren, SV.ren, V1.ren, At.ren,  hn, hmap]) (by simp only [go_sem, renL, Loc.ren, Cont.ren, SV.ren, V1.ren, At.ren,  hn, hmap]) (by simp only [go_sem, renL, Loc.ren, Cont.ren, SV.ren, V1.ren, At.ren,  hn, hmap]) (by decide) (by decide) ?_; refine Imp.of_in ?_; simp only [go_sem, renL, Loc.ren, Cont.ren, SV.ren, V1.ren, At.ren,  hn, hmap])⟩
  · have hta : l.take i = l := by rw [show i = l.length by omega, List.take_length]
    rw [hta] at hfl ⊢
    refine awp_imp (Imp.freezeE 40 (by simp only [go_sem, fixL, Cont.fix, SV.fix, V1.fix, At.fix, cellsT, renL, Loc.ren, Cont.ren, SV.ren, V1.ren, At.ren, freezeL]; rfl) (by simp only [go_sem, fixL, Cont.fix, SV.fix, V1.fix, At.fix, cellsT, renL, Loc.ren, Cont.ren, SV.ren, V1.ren, At.ren, freezeL]; rfl)) ?_
    unfold wt
    generalize l.filter wit = z at hfl ⊢
    have hz8 : z.length * 152 ≤ 140737488351232 := by omega
    have hmb := maj_le n
    have hwm : IntKind.i64.wrap (maj n - 1) = maj n - 1 := IntWalk.i64_in _ ⟨by omega, by omega⟩
    by_cases h1 : (z.length : Int) = 0
    · have h1' : ((z.length : Int) == 0) = true := by simp [h1]
      rw [if_pos (.inl h1)]
      ((repeat' (first | refine thenL_n ?_ | refine thenL_r ?_ | refine thenL_x ?_ | refine blockL_n ?_ | refine blockL_r ?_ | refine blockL_x ?_ | refine blockL_y rfl ?_ | refine awp_seq ?_ | refine awp_block ?_ | refine awp_ret ?_ | refine awp_exit ?_ | refine awp_skip ?_ | exact absurd hcond (by decide) | (first | (refine awp_txt ?_; refine runs_to [] (by simp only [go_sem, hlt, h1']; rfl) ?_) | (refine awp_draw mixed ?_; refine runs_to [] (by simp only [go_sem, hlt, h1']; rfl) ?_)) | refine runD_nil ⟨by kernel_rfl, ?_⟩ | refine runD_nil ?_ | (refine awp_cond (b := _) (by simp only [go_sem, evB, hlt, h1']; rfl) (fun hcond => ?_) (fun hcond => ?_)))); all_goals (refine leaves_ok (by first | exact Or.inl rfl | exact Or.inr rfl) (by simp only [go_sem, resAll, resL, packL, vecsOf, freezeAll, freezeL, hlt, h1']; rfl) ?_; (first | refine SubR.v ?_ | refine SubR.tup ?_); ((repeat' (first | exact All2.nil | refine All2.cons ?_ ?_ | exact SubV.one (SubT.same _) | exact SubV.one (SubT.nil _) | refine SubV.agg ?_ | exact SubT.same _ | exact SubT.nil _)); first | done | fail)))
    · have h1' : ((z.length : Int) == 0) = false := by rw [beq_eq_false_iff_ne]; exact h1
      by_cases h2 : (z.length : Int) < maj n - 1
      · rw [if_pos (.inr (.inl h2))]
        ((repeat' (first | refine thenL_n ?_ | refine thenL_r ?_ | refine thenL_x ?_ | refine blockL_n ?_ | refine blockL_r ?_ | refine blockL_x ?_ | refine blockL_y rfl ?_ | refine awp_seq ?_ | refine awp_block ?_ | refine awp_ret ?_ | refine awp_exit ?_ | refine awp_skip ?_ | exact absurd hcond (by decide) | (first | (refine awp_txt ?_; refine runs_to [] (by simp only [go_sem, hlt, h1', hwm, h2]; rfl) ?_) | (refine awp_draw mixed ?_; refine runs_to [] (by simp only [go_sem, hlt, h1', hwm, h2]; rfl) ?_)) | refine runD_nil ⟨by kernel_rfl, ?_⟩ | refine runD_nil ?_ | (refine runD_call (c51 _) cb51 (by rfl) (by simp only [go_sem, hlt, h1', hwm, h2]; rfl) (by ((repeat' (first | exact All2.nil | refine All2.cons ?_ ?_ | exact SubV.one (SubT.same _) | exact SubV.one (SubT.nil _) | refine SubV.agg ?_ | exact SubT.same _ | exact SubT.nil _)); first | done | fail)) ?_; refine runs_to [] (by simp only [go_sem, hlt, h1', hwm, h2]; rfl) ?_) | (refine awp_cond (b := _) (by simp only [go_sem, evB, hlt, h1', hwm, h2]; rfl) (fun hcond => ?_) (fun hcond => ?_)))); all_goals (refine leaves_ok (by first | exact Or.inl rfl | exact Or.inr rfl) (by simp only [go_sem, resAll, resL, packL, vecsOf, freezeAll, freezeL, hlt, h1', hwm, h2]; rfl) ?_; (first | refine SubR.v ?_ | refine SubR.tup ?_); ((repeat' (first | exact All2.nil | refine All2.cons ?_ ?_ | exact SubV.one (SubT.same _) | exact SubV.one (SubT.nil _) | refine SubV.agg ?_ | exact SubT.same _ | exact SubT.nil _)); first | done | fail)))
      · cases h3 : l.any fun q => q.f == leader with
        | true =>
          rw [if_pos (.inr (.inr rfl))]
          rw [h3] at k121
          ((repeat' (first | refine thenL_n ?_ | refine thenL_r ?_ | refine thenL_x ?_ | refine blockL_n ?_ | refine blockL_r ?_ | refine blockL_x ?_ | refine blockL_y rfl ?_ | refine awp_seq ?_ | refine awp_block ?_ | refine awp_ret ?_ | refine awp_exit ?_ | refine awp_skip ?_ | exact absurd hcond (by decide) | (first | (refine awp_txt ?_; refine runs_to [] (by simp only [go_sem, hlt, h1', hwm, h2]; rfl) ?_) | (refine awp_draw mixed ?_; refine runs_to [] (by simp only [go_sem, hlt, h1', hwm, h2]; rfl) ?_)) | refine runD_nil ⟨by kernel_rfl, ?_⟩ | refine runD_nil ?_ | (refine runD_call (c51 _) cb51 (by rfl) (by simp only [go_sem, hlt, h1', hwm, h2]; rfl) (by ((repeat' (first | exact All2.nil | refine All2.cons ?_ ?_ | exact SubV.one (SubT.same _) | exact SubV.one (SubT.nil _) | refine SubV.agg ?_ | exact SubT.same _ | exact SubT.nil _)); first | done | fail)) ?_; refine runs_to [] (by simp only [go_sem, hlt, h1', hwm, h2]; rfl) ?_) | (refine runD_call (k121) cb121 (by rfl) (by simp only [go_sem, hlt, h1', hwm, h2]; rfl) (by ((repeat' (first | exact All2.nil | refine All2.cons ?_ ?_ | exact SubV.one (SubT.same _) | exact SubV.one (SubT.nil _) | refine SubV.agg ?_ | exact SubT.same _ | exact SubT.nil _)); first | done | fail)) ?_; refine runs_to [] (by simp only [go_sem, hlt, h1', hwm, h2]; rfl) ?_) | (refine awp_cond (b := _) (by simp only [go_sem, evB, hlt, h1', hwm, h2]; rfl) (fun hcond => ?_) (fun hcond => ?_)))); all_goals (refine leaves_ok (by first | exact Or.inl rfl | exact Or.inr rfl) (by simp only [go_sem, resAll, resL, packL, vecsOf, freezeAll, freezeL, hlt, h1', hwm, h2]; rfl) ?_; (first | refine SubR.v ?_ | refine SubR.tup ?_); ((repeat' (first | exact All2.nil | refine All2.cons ?_ ?_ | exact SubV.one (SubT.same _) | exact SubV.one (SubT.nil _) | refine SubV.agg ?_ | exact SubT.same _ | exact SubT.nil _)); first | done | fail)))
        | false =>
          rw [if_neg (by rintro (h | h | h); exact h1 h; exact h2 h; simp at h)]
          rw [h3] at k121
          obtain ⟨q, hq⟩ : ∃ q, z[0]? = some q := ⟨z[0]'(by omega), List.getElem?_eq_getElem _⟩
          rw [hq]
          have hq' : ∀ i : Nat, i = 0 → z[i]? = some q := by rintro i rfl; exact hq
          have h0 : (Int.toNat 0) = 0 := rfl
          ((repeat' (first | refine thenL_n ?_ | refine thenL_r ?_ | refine thenL_x ?_ | refine blockL_n ?_ | refine blockL_r ?_ | refine blockL_x ?_ | refine blockL_y rfl ?_ | refine awp_seq ?_ | refine awp_block ?_ | refine awp_ret ?_ | refine awp_exit ?_ | refine awp_skip ?_ | exact absurd hcond (by decide) | (first | (refine awp_txt ?_; refine runs_to [] (by simp only [go_sem, hlt, h1', hwm, h2, hq, h0]; rfl) ?_) | (refine awp_draw mixed ?_; refine runs_to [] (by simp only [go_sem, hlt, h1', hwm, h2, hq, h0]; rfl) ?_)) | refine runD_nil ⟨by kernel_rfl, ?_⟩ | refine runD_nil ?_ | (refine runD_call (c51 _) cb51 (by rfl) (by simp only [go_sem, hlt, h1', hwm, h2, hq, h0]; rfl) (by ((repeat' (first | exact All2.nil | refine All2.cons ?_ ?_ | exact SubV.one (SubT.same _) | exact SubV.one (SubT.nil _) | refine SubV.agg ?_ | exact SubT.same _ | exact SubT.nil _)); first | done | fail)) ?_; refine runs_to [] (by simp only [go_sem, hlt, h1', hwm, h2, hq, h0]; rfl) ?_) | (refine runD_call (k121) cb121 (by rfl) (by simp only [go_sem, hlt, h1', hwm, h2, hq, h0]; rfl) (by ((repeat' (first | exact All2.nil | refine All2.cons ?_ ?_ | exact SubV.one (SubT.same _) | exact SubV.one (SubT.nil _) | refine SubV.agg ?_ | exact SubT.same _ | exact SubT.nil _)); first | done | fail)) ?_; refine runs_to [] (by simp only [go_sem, hlt, h1', hwm, h2, hq, h0]; rfl) ?_) | (refine awp_cond (b := _) (by simp only [go_sem, evB, hlt, h1', hwm, h2, hq, h0]; rfl) (fun hcond => ?_) (fun hcond => ?_)))); all_goals (refine leaves_ok (by first | exact Or.inl rfl | exact Or.inr rfl) (by simp only [go_sem, resAll, resL, packL, vecsOf, freezeAll, freezeL, hlt, h1', hwm, h2, hq, h0]; rfl) ?_; (first | refine SubR.v ?_ | refine SubR.tup ?_); ((repeat' (first | exact All2.nil | refine All2.cons ?_ ?_ | exact SubV.one (SubT.same _) | exact SubV.one (SubT.nil _) | refine SubV.agg ?_ | exact SubT.same _ | exact SubT.nil _)); first | done | fail)))
end Go.Proofs.Ytbohgpdpglfepaa
