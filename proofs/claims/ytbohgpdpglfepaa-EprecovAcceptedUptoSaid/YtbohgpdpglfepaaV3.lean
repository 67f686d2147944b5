import Derived.Test.YtbohgpdpglfepaaV2
set_option maxHeartbeats 4000000
set_option maxRecDepth 10000
set_option linter.unusedVariables false
set_option linter.unusedSimpArgs false
namespace Go.Proofs.Ytbohgpdpglfepaa
open Go.AM Go.RowKit
attribute [local irreducible] AWP thenL blockL AM.Leaves LeavesO RunD
attribute [local go_sem] runs stepR actF inF frzA frzW lastW act act1 actPick actNil actBin
  actUn actConv actExtract actFieldAddr actField actAlloc keysOf actBox actLoad treesOf actStore actIndex
  actLen actMx srcL actAppend actMake actBuild actBuildSlice boundL actSlice actCall actEqS isStruct
  isSlice actText actCopy litsOf kindsOK fieldsPlain eqAll eqop dstB dstN boolS litB
  litV sv binv unv lits takeC cellsR trees cellsW mxv repl parts
  fillAt fillRows V1.cs mkV ev evr AM.look put del applyL delD wrD
  undefS SV.to V1.to At.to keysL notIn freshKey PV.up PR.up entry entryV evp
  isAt actPtrNil capsL actFunc sameV sameVs pureCtx doc mkVar AM.Loc.key Cont.keys SV.keys
  V1.keys At.keys Cont.sub SV.sub V1.sub At.sub guardR argsL callR Nat.blt_eq Nat.blt Nat.ble
  Nat.beq_eq_true_eq beq_self_eq_true Array.toList List.map List.append_eq List.nil_append List.cons_append List.append_nil List.append_assoc Bool.and_eq_true decide_true decide_false
  decide_eq_true_eq Bool.not_true Bool.not_false reduceCtorEq if_true if_false ite_true ite_false reduceIte AM.Loc.slot.injEq AM.Loc.cell.injEq AM.Loc.vec.injEq
  List.getElem?_cons_zero List.getElem?_cons_succ List.getElem?_nil Option.map_some Option.map_none Option.toList List.flatMap_nil List.flatMap_cons Bool.and_true Bool.true_and Bool.and_false Bool.false_and
  Bool.true_eq_false Bool.false_eq_true Nat.reduceBEq Nat.reduceEqDiff bool_beq_tt bool_beq_ff bool_beq_tf bool_beq_ft List.length_cons List.length_nil List.drop List.take
  List.drop_zero List.take_zero List.all_cons List.all_nil Value.oneCell' Nat.zero_add Nat.reduceAdd Nat.reduceMul Nat.reduceSub Nat.reduceLT Nat.reduceLeDiff Int.reduceLT
  Int.reduceLE Int.reduceEq Int.reduceBEq Int.reduceBNe Int.reduceAdd Int.reduceSub Int.reduceMul Int.reduceNeg Int.reduceToNat Nat.succ_ne_zero List.replicate and_true
  true_and and_false false_and and_self ge_iff_le gt_iff_lt bne_self_eq_false List.zip_cons_cons List.zip_nil_left List.zip List.zipWith Int.natCast_nonneg
  Int.toNat_natCast List.getElem?_map List.length_map sT sI sB sR sP rV AllIn Int.toNat_zero Int.ofNat_zero
  Int.natCast_zero Nat.le_refl List.mapM_cons List.mapM_nil Option.bind_eq_bind Option.bind_some Option.pure_def List.set_cons_zero List.set_cons_succ List.length_set tt2 tt3
  tt4 tt5 tt9 tt12 tt21 tt22 tt23 tt24 tt25 tt36 tt37 tt43
  tt44 tt51 tt52 tt53 tt59 tt67 tt68 tt69 tt74 tt75 tt76 tt77
  tt78 tt79 tt89 tt92 tt95 tt96 tt97 tt98 tt99 tt102 tt103 tt106
  tt107 tt108 tt114 tt115 tt116 tt117 tt118 tt119 tt120 tt122 tt124 tt125
  tt126 tt127 tt130 tt131 tt132 tt133 tt134 tt135 tt137 tt138 tt139 tt147
  tt148 tt149 tt159 tt164 tt165 tt167 tt168 tt169 tt170 tt171 tt190 tt191
  tt194 tt200 tt208 tt212
attribute [local go_sem] vlit bal rInt rBool vInts pInts vvInts vPairs att vAtts vBy cm iv vvBy lI lB rpL vRp rK

/-- A plan. -/
structure PL where
  kd : Int
  k : Int
  h : ByteArray
  c : List Int
  s : Int
  d : List Int
def plL (p : PL) : List T := [.lit (.int .i64 p.kd), .lit (.int .i64 p.k), .lit (.string p.h), vBy p.c, .lit (.int .i64 p.s), vInts p.d]
attribute [local go_sem] plL
def plan (kd : Int) (x : IN) : PL := if kd = 3 then ⟨3, x.k, x.h, x.c, 0, []⟩ else ⟨kd, x.k, x.h, x.c, x.s, x.d⟩
def pl0 : PL := ⟨0, 0, ⟨#[]⟩, [], 0, []⟩

theorem c101 (j : List T) (hj : j.length = 3) (kd : Int) (x : IN) (hx : x.ok) : Pure Try.prog 101 [.agg j, vlit (.int .i64 kd), iv x] (.v (.agg (plL (plan kd x)))) := by
  match j, hj with
  | [j0, j1, j2], _ =>
    by_cases h : kd = 3
    · subst h
      have hf : plan 3 x = ⟨3, x.k, x.h, x.c, 0, []⟩ := if_pos rfl
      rw [hf]
      refine pure_of_body Try.func101 rfl (by simp [Try.f101]) ?_; rw [Try.ntmps101, Try.results101]; intro w0 G0
      ((repeat' (first | refine thenL_n ?_ | refine thenL_r ?_ | refine thenL_x ?_ | refine blockL_n ?_ | refine blockL_r ?_ | refine blockL_x ?_ | refine blockL_y rfl ?_ | refine awp_seq ?_ | refine awp_block ?_ | refine awp_ret ?_ | refine awp_exit ?_ | refine awp_skip ?_ | exact absurd hcond (by decide) | (first | (refine awp_txt ?_; refine runs_to [] (by simp only [go_sem]; rfl) ?_) | (refine awp_draw mixed ?_; refine runs_to [] (by simp only [go_sem]; rfl) ?_)) | refine runD_nil ⟨by kernel_rfl, ?_⟩ | refine runD_nil ?_ | (refine runD_call (c82 x.d hx.d) cb82 (by rfl) (by simp only [go_sem]; rfl) (by ((repeat' (first | exact All2.nil | refine All2.cons ?_ ?_ | exact SubV.one (SubT.same _) | exact SubV.one (SubT.nil _) | refine SubV.agg ?_ | exact SubT.same _ | exact SubT.nil _)); first | done | fail)) ?_; refine runs_to [] (by simp only [go_sem]; rfl) ?_) | (refine runD_call (c115 x.c hx.c) cb115 (by rfl) (by simp only [go_sem]; rfl) (by ((repeat' (first | exact All2.nil | refine All2.cons ?_ ?_ | exact SubV.one (SubT.same _) | exact SubV.one (SubT.nil _) | refine SubV.agg ?_ | exact SubT.same _ | exact SubT.nil _)); first | done | fail)) ?_; refine runs_to [] (by simp only [go_sem]; rfl) ?_) | (refine awp_cond (b := _) (by simp only [go_sem, evB]; rfl) (fun hcond => ?_) (fun hcond => ?_)))); all_goals (refine leaves_ok (by first | exact Or.inl rfl | exact Or.inr rfl) (by simp only [go_sem, resAll, resL, packL, vecsOf, freezeAll, freezeL]; rfl) ?_; (first | refine SubR.v ?_ | refine SubR.tup ?_); ((repeat' (first | exact All2.nil | refine All2.cons ?_ ?_ | exact SubV.one (SubT.same _) | exact SubV.one (SubT.nil _) | refine SubV.agg ?_ | exact SubT.same _ | exact SubT.nil _)); first | done | fail)))
    · have hf : plan kd x = ⟨kd, x.k, x.h, x.c, x.s, x.d⟩ := if_neg h
      have h' : (kd == 3) = false := by simp [h]
      rw [hf]
      refine pure_of_body Try.func101 rfl (by simp [Try.f101]) ?_; rw [Try.ntmps101, Try.results101]; intro w0 G0
      ((repeat' (first | refine thenL_n ?_ | refine thenL_r ?_ | refine thenL_x ?_ | refine blockL_n ?_ | refine blockL_r ?_ | refine blockL_x ?_ | refine blockL_y rfl ?_ | refine awp_seq ?_ | refine awp_block ?_ | refine awp_ret ?_ | refine awp_exit ?_ | refine awp_skip ?_ | exact absurd hcond (by decide) | (first | (refine awp_txt ?_; refine runs_to [] (by simp only [go_sem, h']; rfl) ?_) | (refine awp_draw mixed ?_; refine runs_to [] (by simp only [go_sem, h']; rfl) ?_)) | refine runD_nil ⟨by kernel_rfl, ?_⟩ | refine runD_nil ?_ | (refine runD_call (c82 x.d hx.d) cb82 (by rfl) (by simp only [go_sem, h']; rfl) (by ((repeat' (first | exact All2.nil | refine All2.cons ?_ ?_ | exact SubV.one (SubT.same _) | exact SubV.one (SubT.nil _) | refine SubV.agg ?_ | exact SubT.same _ | exact SubT.nil _)); first | done | fail)) ?_; refine runs_to [] (by simp only [go_sem, h']; rfl) ?_) | (refine runD_call (c115 x.c hx.c) cb115 (by rfl) (by simp only [go_sem, h']; rfl) (by ((repeat' (first | exact All2.nil | refine All2.cons ?_ ?_ | exact SubV.one (SubT.same _) | exact SubV.one (SubT.nil _) | refine SubV.agg ?_ | exact SubT.same _ | exact SubT.nil _)); first | done | fail)) ?_; refine runs_to [] (by simp only [go_sem, h']; rfl) ?_) | (refine awp_cond (b := _) (by simp only [go_sem, evB, h']; rfl) (fun hcond => ?_) (fun hcond => ?_)))); all_goals (refine leaves_ok (by first | exact Or.inl rfl | exact Or.inr rfl) (by simp only [go_sem, resAll, resL, packL, vecsOf, freezeAll, freezeL, h']; rfl) ?_; (first | refine SubR.v ?_ | refine SubR.tup ?_); ((repeat' (first | exact All2.nil | refine All2.cons ?_ ?_ | exact SubV.one (SubT.same _) | exact SubV.one (SubT.nil _) | refine SubV.agg ?_ | exact SubT.same _ | exact SubT.nil _)); first | done | fail)))

theorem c104 (n : Int) (h : 1 ≤ n ∧ n ≤ 7) : Pure Try.prog 104 [vlit (.int .i64 n)] (.tup [att 0 (List.replicate n.toNat 0), vlit (.bool true)]) := by
  have k36 := c36 n
  rw [if_pos h] at k36
  generalize List.replicate n.toNat (0 : Int) = z at *
  refine pure_of_body Try.func104 rfl (by simp [Try.f104]) ?_; rw [Try.ntmps104, Try.results104]; intro w0 G0
  ((repeat' (first | refine thenL_n ?_ | refine thenL_r ?_ | refine thenL_x ?_ | refine blockL_n ?_ | refine blockL_r ?_ | refine blockL_x ?_ | refine blockL_y rfl ?_ | refine awp_seq ?_ | refine awp_block ?_ | refine awp_ret ?_ | refine awp_exit ?_ | refine awp_skip ?_ | exact absurd hcond (by decide) | (first | (refine awp_txt ?_; refine runs_to [] (by simp only [go_sem]; rfl) ?_) | (refine awp_draw mixed ?_; refine runs_to [] (by simp only [go_sem]; rfl) ?_)) | refine runD_nil ⟨by kernel_rfl, ?_⟩ | refine runD_nil ?_ | (refine runD_call (k36) cb36 (by rfl) (by simp only [go_sem]; rfl) (by ((repeat' (first | exact All2.nil | refine All2.cons ?_ ?_ | exact SubV.one (SubT.same _) | exact SubV.one (SubT.nil _) | refine SubV.agg ?_ | exact SubT.same _ | exact SubT.nil _)); first | done | fail)) ?_; refine runs_to [] (by simp only [go_sem]; rfl) ?_) | (refine awp_cond (b := _) (by simp only [go_sem, evB]; rfl) (fun hcond => ?_) (fun hcond => ?_)))); all_goals (refine leaves_ok (by first | exact Or.inl rfl | exact Or.inr rfl) (by simp only [go_sem, resAll, resL, packL, vecsOf, freezeAll, freezeL]; rfl) ?_; (first | refine SubR.v ?_ | refine SubR.tup ?_); ((repeat' (first | exact All2.nil | refine All2.cons ?_ ?_ | exact SubV.one (SubT.same _) | exact SubV.one (SubT.nil _) | refine SubV.agg ?_ | exact SubT.same _ | exact SubT.nil _)); first | done | fail)))

/-- One more right reply. -/
def addK (n : Int) (a : List RP) (r : RP) : List RP := if (decide (0 ≤ r.f) && decide (r.f < n) && riOK n r.x && !a.any fun q => q.f == r.f) = true then a ++ [r] else a
def kn (n : Int) (l : List RP) : List RP := l.foldl (addK n) []
theorem addK_len (n : Int) (a : List RP) (r : RP) : (addK n a r).length ≤ a.length + 1 := by
  unfold addK
  split <;> simp
theorem kn_len (n : Int) (l : List RP) : ∀ i, i ≤ l.length → (kn n (l.take i)).length ≤ i
  | 0, _ => by simp [kn]
  | i + 1, hi => by
    have h1 := kn_len n l i (by omega)
    have h2 : kn n (l.take (i + 1)) = addK n (kn n (l.take i)) l[i] := foldS (addK n) [] l i (by omega)
    have h3 := addK_len n (kn n (l.take i)) l[i]
    rw [h2]; omega
theorem addK_mem {n : Int} {a : List RP} {r q : RP} (h : q ∈ addK n a r) : q ∈ a ∨ q = r := by
  unfold addK at h
  split at h
  · simpa using h
  · exact .inl h
theorem kn_mem (n : Int) : ∀ (l a : List RP) {q : RP}, q ∈ l.foldl (addK n) a → q ∈ a ∨ q ∈ l
  | [], a, q, h => .inl h
  | r :: l, a, q, h => by
    rcases kn_mem n l _ h with h | h
    · rcases addK_mem h with h | h
      · exact .inl h
      · exact .inr (by simp [h])
    · exact .inr (by simp [h])

/-- The plan, the right replies known. -/
def dcK (n leader : Int) (k : List RP) : PL :=
  if 0 ≤ idx (fun q => q.x.st == 3) k then (match k[(idx (fun q => q.x.st == 3) k).toNat]? with | some q => plan 1 q.x | none => pl0)
  else if (k.length : Int) < maj n then pl0 else
    match pk (fun q => q.x.st == 2) k with
    | some q => plan 2 q.x
    | none => match wt n leader k with
      | some q => plan 2 q.x
      | none => match pk (fun q => q.x.st == 1) k with
        | some q => plan 3 q.x
        | none => ⟨2, 0, ⟨#[]⟩, [], 0, List.replicate n.toNat 0⟩
def dc (n leader : Int) (l : List RP) : PL := if 1 ≤ n ∧ n ≤ 7 ∧ 0 ≤ leader ∧ leader < n then dcK n leader (kn n l) else pl0

theorem idx_lt (p : RP → Bool) : ∀ (l : List RP), idx p l < l.length ∧ -1 ≤ idx p l
  | [] => by simp [idx]
  | r :: l => by
    have ih := idx_lt p l
    unfold idx
    split
    · simp only [List.length_cons]; omega
    · split
      · simp only [List.length_cons]; omega
      · simp only [List.length_cons]; omega
theorem pk_mem (p : RP → Bool) : ∀ (l : List RP) (b : Option RP) {q : RP}, l.foldl (pk1 p) b = some q → b = some q ∨ q ∈ l
  | [], b, q, h => .inl h
  | r :: l, b, q, h => by
    rcases pk_mem p l _ h with h | h
    · unfold pk1 at h
      split at h
      · split at h
        · injection h with h; exact .inr (by simp [h])
        · split at h
          · injection h with h; exact .inr (by simp [h])
          · exact .inl h
      · exact .inl h
    · exact .inr (by simp [h])
theorem wt_mem {n leader : Int} {k : List RP} {q : RP} (h : wt n leader k = some q) : q ∈ k := by
  unfold wt at h
  split at h
  · simp at h
  · exact (List.mem_filter.1 (List.mem_of_getElem? h)).1

theorem c68 (n leader : Int) (l : List RP) (hl : l.length * 152 ≤ 140737488351232) (hx : ∀ q, q ∈ l → q.x.ok) : Pure Try.prog 68 [vlit (.int .i64 n), vlit (.int .i64 leader), .one (vRp l)] (.v (.agg (plL (dc n leader l)))) := by
  by_cases h1 : 1 ≤ n ∧ n ≤ 7
  case neg =>
    have hf : dc n leader l = pl0 := if_neg (by omega)
    have hm : (maj n == 0) = true := by rw [maj_out h1]; rfl
    rw [hf]
    refine pure_of_body Try.func68 rfl (by simp [Try.f68]) ?_; rw [Try.ntmps68, Try.results68]; intro w0 G0
    ((repeat' (first | refine thenL_n ?_ | refine thenL_r ?_ | refine thenL_x ?_ | refine blockL_n ?_ | refine blockL_r ?_ | refine blockL_x ?_ | refine blockL_y rfl ?_ | refine awp_seq ?_ | refine awp_block ?_ | refine awp_ret ?_ | refine awp_exit ?_ | refine awp_skip ?_ | exact absurd hcond (by decide) | (first | (refine awp_txt ?_; refine runs_to [] (by simp only [go_sem, hm, pl0]; rfl) ?_) | (refine awp_draw mixed ?_; refine runs_to [] (by simp only [go_sem, hm, pl0]; rfl) ?_)) | refine runD_nil ⟨by kernel_rfl, ?_⟩ | refine runD_nil ?_ | (refine runD_call (c51 _) cb51 (by rfl) (by simp only [go_sem, hm, pl0]; rfl) (by ((repeat' (first | exact All2.nil | refine All2.cons ?_ ?_ | exact SubV.one (SubT.same _) | exact SubV.one (SubT.nil _) | refine SubV.agg ?_ | exact SubT.same _ | exact SubT.nil _)); first | done | fail)) ?_; refine runs_to [] (by simp only [go_sem, hm, pl0]; rfl) ?_) | (refine awp_cond (b := _) (by simp only [go_sem, evB, hm, pl0]; rfl) (fun hcond => ?_) (fun hcond => ?_)))); all_goals (refine leaves_ok (by first | exact Or.inl rfl | exact Or.inr rfl) (by simp only [go_sem, resAll, resL, packL, vecsOf, freezeAll, freezeL, hm, pl0]; rfl) ?_; (first | refine SubR.v ?_ | refine SubR.tup ?_); ((repeat' (first | exact All2.nil | refine All2.cons ?_ ?_ | exact SubV.one (SubT.same _) | exact SubV.one (SubT.nil _) | refine SubV.agg ?_ | exact SubT.same _ | exact SubT.nil _)); first | done | fail)))
  have hm : (maj n == 0) = false := by rw [maj_in h1]; simp; omega
  by_cases h2 : leader < 0
  · have hf : dc n leader l = pl0 := if_neg (by omega)
    rw [hf]
    refine pure_of_body Try.func68 rfl (by simp [Try.f68]) ?_; rw [Try.ntmps68, Try.results68]; intro w0 G0
    ((repeat' (first | refine thenL_n ?_ | refine thenL_r ?_ | refine thenL_x ?_ | refine blockL_n ?_ | refine blockL_r ?_ | refine blockL_x ?_ | refine blockL_y rfl ?_ | refine awp_seq ?_ | refine awp_block ?_ | refine awp_ret ?_ | refine awp_exit ?_ | refine awp_skip ?_ | exact absurd hcond (by decide) | (first | (refine awp_txt ?_; refine runs_to [] (by simp only [go_sem, hm, h2, pl0]; rfl) ?_) | (refine awp_draw mixed ?_; refine runs_to [] (by simp only [go_sem, hm, h2, pl0]; rfl) ?_)) | refine runD_nil ⟨by kernel_rfl, ?_⟩ | refine runD_nil ?_ | (refine runD_call (c51 _) cb51 (by rfl) (by simp only [go_sem, hm, h2, pl0]; rfl) (by ((repeat' (first | exact All2.nil | refine All2.cons ?_ ?_ | exact SubV.one (SubT.same _) | exact SubV.one (SubT.nil _) | refine SubV.agg ?_ | exact SubT.same _ | exact SubT.nil _)); first | done | fail)) ?_; refine runs_to [] (by simp only [go_sem, hm, h2, pl0]; rfl) ?_) | (refine awp_cond (b := _) (by simp only [go_sem, evB, hm, h2, pl0]; rfl) (fun hcond => ?_) (fun hcond => ?_)))); all_goals (refine leaves_ok (by first | exact Or.inl rfl | exact Or.inr rfl) (by simp only [go_sem, resAll, resL, packL, vecsOf, freezeAll, freezeL, hm, h2, pl0]; rfl) ?_; (first | refine SubR.v ?_ | refine SubR.tup ?_); ((repeat' (first | exact All2.nil | refine All2.cons ?_ ?_ | exact SubV.one (SubT.same _) | exact SubV.one (SubT.nil _) | refine SubV.agg ?_ | exact SubT.same _ | exact SubT.nil _)); first | done | fail)))
  by_cases h3 : n ≤ leader
  · have hf : dc n leader l = pl0 := if_neg (by omega)
    rw [hf]
    refine pure_of_body Try.func68 rfl (by simp [Try.f68]) ?_; rw [Try.ntmps68, Try.results68]; intro w0 G0
    ((repeat' (first | refine thenL_n ?_ | refine thenL_r ?_ | refine thenL_x ?_ | refine blockL_n ?_ | refine blockL_r ?_ | refine blockL_x ?_ | refine blockL_y rfl ?_ | refine awp_seq ?_ | refine awp_block ?_ | refine awp_ret ?_ | refine awp_exit ?_ | refine awp_skip ?_ | exact absurd hcond (by decide) | (first | (refine awp_txt ?_; refine runs_to [] (by simp only [go_sem, hm, h2, h3, pl0]; rfl) ?_) | (refine awp_draw mixed ?_; refine runs_to [] (by simp only [go_sem, hm, h2, h3, pl0]; rfl) ?_)) | refine runD_nil ⟨by kernel_rfl, ?_⟩ | refine runD_nil ?_ | (refine runD_call (c51 _) cb51 (by rfl) (by simp only [go_sem, hm, h2, h3, pl0]; rfl) (by ((repeat' (first | exact All2.nil | refine All2.cons ?_ ?_ | exact SubV.one (SubT.same _) | exact SubV.one (SubT.nil _) | refine SubV.agg ?_ | exact SubT.same _ | exact SubT.nil _)); first | done | fail)) ?_; refine runs_to [] (by simp only [go_sem, hm, h2, h3, pl0]; rfl) ?_) | (refine awp_cond (b := _) (by simp only [go_sem, evB, hm, h2, h3, pl0]; rfl) (fun hcond => ?_) (fun hcond => ?_)))); all_goals (refine leaves_ok (by first | exact Or.inl rfl | exact Or.inr rfl) (by simp only [go_sem, resAll, resL, packL, vecsOf, freezeAll, freezeL, hm, h2, h3, pl0]; rfl) ?_; (first | refine SubR.v ?_ | refine SubR.tup ?_); ((repeat' (first | exact All2.nil | refine All2.cons ?_ ?_ | exact SubV.one (SubT.same _) | exact SubV.one (SubT.nil _) | refine SubV.agg ?_ | exact SubT.same _ | exact SubT.nil _)); first | done | fail)))
  have hf : dc n leader l = dcK n leader (kn n l) := if_pos (by omega)
  rw [hf]
  refine pure_of_body Try.func68 rfl (by simp [Try.f68]) ?_; rw [Try.ntmps68, Try.results68]; intro w0 G0
  (repeat' (first | refine thenL_n ?_ | refine thenL_r ?_ | refine thenL_x ?_ | refine blockL_n ?_ | refine blockL_r ?_ | refine blockL_x ?_ | refine blockL_y rfl ?_ | refine awp_seq ?_ | refine awp_block ?_ | refine awp_ret ?_ | refine awp_exit ?_ | refine awp_skip ?_ | exact absurd hcond (by decide) | (first | (refine awp_txt ?_; refine runs_to [] (by simp only [go_sem, hm, h2, h3]; rfl) ?_) | (refine awp_draw mixed ?_; refine runs_to [] (by simp only [go_sem, hm, h2, h3]; rfl) ?_)) | refine runD_nil ⟨by kernel_rfl, ?_⟩ | refine runD_nil ?_ | (refine runD_call (c51 _) cb51 (by rfl) (by simp only [go_sem, hm, h2, h3]; rfl) (by ((repeat' (first | exact All2.nil | refine All2.cons ?_ ?_ | exact SubV.one (SubT.same _) | exact SubV.one (SubT.nil _) | refine SubV.agg ?_ | exact SubT.same _ | exact SubT.nil _)); first | done | fail)) ?_; refine runs_to [] (by simp only [go_sem, hm, h2, h3]; rfl) ?_) | (refine awp_cond (b := _) (by simp only [go_sem, evB, hm, h2, h3]; rfl) (fun hcond => ?_) (fun hcond => ?_))))
  refine awp_imp (Imp.adoptCE 7 0 40 14 135 (by simp only [go_sem, fixL, Cont.fix, SV.fix, V1.fix, At.fix, cellsT, renL, Loc.ren, Cont.ren, SV.ren, V1.ren, At.ren, freezeL]) (by decide) (by simp only [go_sem, fixL, Cont.fix, SV.fix, V1.fix, At.fix, cellsT, renL, Loc.ren, Cont.ren, SV.ren, V1.ren, At.ren, freezeL]) (by simp only [go_sem, fixL, Cont.fix, SV.fix, V1.fix, At.fix, cellsT, renL, Loc.ren, Cont.ren, SV.ren, V1.ren, At.ren, freezeL]; rfl)) ?_
  refine awp_loop (fun i : Nat => [(.slot 0, sI n), (.slot 6, sP 6), (.cell 6 0, .c (lI 0)), (.cell 6 1, .c (lI 0)), (.cell 6 2, .c (.t (.lit (.string ⟨#[]⟩)))), (.cell 6 3, .c (.t (.lit (.slice none 0 0)))), (.cell 6 4, .c (lI 0)), (.cell 6 5, .c (.t (.lit (.slice none 0 0)))), (.slot 7, sP 7), (.cell 7 0, .c (.row 40)), (.cell 7 1, .c (lI n)), (.cell 7 2, .c (lI leader)), (.vec 40, .r 14 135 ((kn n (l.take i)).map rpL)), (.slot 36, sT (vRp l)), (.slot 37, sI l.length), (.slot 38, sI i)]) (fun i => i ≤ l.length) (fun i => l.length - i) 0 (Nat.zero_le _) (by refine Imp.of_in ?_; simp only [go_sem, kn, List.foldl_nil, List.take_zero, List.map_nil, Int.natCast_zero]) ?_
  intro i hi
  have hkl := kn_len n l i hi
  by_cases hlt : (i : Int) < l.length
  · have hil : i < l.length := by omega
    have hxi : l[i]? = some l[i] := List.getElem?_eq_getElem hil
    have hn : kn n (l.take (i + 1)) = addK n (kn n (l.take i)) l[i] := foldS (addK n) [] l i hil
    generalize l[i] = r at hxi hn
    have hw := up i (by omega)
    generalize kn n (l.take i) = a at hkl hn
    have k98 := c98 96 (.ptr (rpL r)) cb96 (fun q => q.f == r.f) a (by omega) (fun q _ => c96 q r)
    have hc1 : a.length + 1 ≤ 140737488355328 := by omega
    have hc2 : (a.length + 1) * 152 ≤ 140737488355328 := by omega
    (repeat' (first | refine thenL_n ?_ | refine thenL_r ?_ | refine thenL_x ?_ | refine blockL_n ?_ | refine blockL_r ?_ | refine blockL_x ?_ | refine blockL_y rfl ?_ | refine awp_seq ?_ | refine awp_block ?_ | refine awp_ret ?_ | refine awp_exit ?_ | refine awp_skip ?_ | exact absurd hcond (by decide) | ((fail_if_success (refine isReg 7 ?_)); first | (refine awp_txt ?_; refine runs_to [] (by simp only [go_sem, hlt, hil, hxi]; rfl) ?_) | (refine awp_draw mixed ?_; refine runs_to [] (by simp only [go_sem, hlt, hil, hxi]; rfl) ?_)) | refine runD_nil ⟨by kernel_rfl, ?_⟩ | refine runD_nil ?_ | (refine awp_cond (b := _) (by simp only [go_sem, evB, hlt, hil, hxi]; rfl) (fun hcond => ?_) (fun hcond => ?_))))
    refine awp_imp (Imp.fixE 9 14 (by decide) (by simp only [go_sem, fixL, Cont.fix, SV.fix, V1.fix, At.fix, cellsT, renL, Loc.ren, Cont.ren, SV.ren, V1.ren, At.ren, freezeL]; rfl) (by decide) (by simp only [go_sem, fixL, Cont.fix, SV.fix, V1.fix, At.fix, cellsT, renL, Loc.ren, Cont.ren, SV.ren, V1.ren, At.ren, freezeL]; rfl)) ?_
    by_cases g1 : 0 ≤ r.f
    · by_cases g2 : r.f < n
      · cases g3 : riOK n r.x with
        | true =>
          cases g4 : a.any fun q => q.f == r.f with
          | true =>
            have hn2 : kn n (l.take (i + 1)) = a := by rw [hn, addK, if_neg (by simp [g4])]
            rw [g4] at k98
            (repeat' (first | refine thenL_n ?_ | refine thenL_r ?_ | refine thenL_x ?_ | refine blockL_n ?_ | refine blockL_r ?_ | refine blockL_x ?_ | refine blockL_y rfl ?_ | refine awp_seq ?_ | refine awp_block ?_ | refine awp_ret ?_ | refine awp_exit ?_ | refine awp_skip ?_ | exact absurd hcond (by decide) | (first | (refine awp_txt ?_; refine runs_to [] (by simp only [go_sem, hw, g1, g2, g3]; rfl) ?_) | (refine awp_draw mixed ?_; refine runs_to [] (by simp only [go_sem, hw, g1, g2, g3]; rfl) ?_)) | refine runD_nil ⟨by kernel_rfl, ?_⟩ | refine runD_nil ?_ | (refine runD_call (c97 _ _) cb97 (by rfl) (by simp only [go_sem, hw, g1, g2, g3]; rfl) (by ((repeat' (first | exact All2.nil | refine All2.cons ?_ ?_ | exact SubV.one (SubT.same _) | exact SubV.one (SubT.nil _) | refine SubV.agg ?_ | exact SubT.same _ | exact SubT.nil _)); first | done | fail)) ?_; refine runs_to [] (by simp only [go_sem, hw, g1, g2, g3]; rfl) ?_) | (refine runD_lend (k98) cb98 (by rfl) (.inl (by simp only [go_sem, hw, g1, g2, g3]; rfl)) (by simp only [go_sem, lendL, lendV, lendA, lendAs, hw, g1, g2, g3]; rfl) (by ((repeat' (first | exact All2.nil | refine All2.cons ?_ ?_ | exact SubV.one (SubT.same _) | exact SubV.one (SubT.nil _) | refine SubV.agg ?_ | exact SubT.same _ | exact SubT.nil _)); first | done | fail)) (by rfl) ?_; refine runs_to [] (by simp only [go_sem, hw, g1, g2, g3]; rfl) ?_) | (refine awp_cond (b := _) (by simp only [go_sem, evB, hw, g1, g2, g3]; rfl) (fun hcond => ?_) (fun hcond => ?_))))
            exact ⟨i + 1, by omega, by omega, (by refine Imp.of_in ?_; simp only [go_sem, hn2])⟩
          | false =>
            have hn2 : kn n (l.take (i + 1)) = a ++ [r] := by rw [hn, addK, if_pos (by simp [g1, g2, g3, g4])]
            have hmap : List.map rpL (a ++ [r]) = List.map rpL a ++ [rpL r] := by simp
            simp only [rpL, vBy, vInts] at hmap
            rw [g4] at k98
            (repeat' (first | refine thenL_n ?_ | refine thenL_r ?_ | refine thenL_x ?_ | refine blockL_n ?_ | refine blockL_r ?_ | refine blockL_x ?_ | refine blockL_y rfl ?_ | refine awp_seq ?_ | refine awp_block ?_ | refine awp_ret ?_ | refine awp_exit ?_ | refine awp_skip ?_ | exact absurd hcond (by decide) | (first | (refine awp_txt ?_; refine runs_to [] (by simp only [go_sem, hw, g1, g2, g3, hc1, hc2]; rfl) ?_) | (refine awp_draw mixed ?_; refine runs_to [] (by simp only [go_sem, hw, g1, g2, g3, hc1, hc2]; rfl) ?_)) | refine runD_nil ⟨by kernel_rfl, ?_⟩ | refine runD_nil ?_ | (refine runD_call (c97 _ _) cb97 (by rfl) (by simp only [go_sem, hw, g1, g2, g3, hc1, hc2]; rfl) (by ((repeat' (first | exact All2.nil | refine All2.cons ?_ ?_ | exact SubV.one (SubT.same _) | exact SubV.one (SubT.nil _) | refine SubV.agg ?_ | exact SubT.same _ | exact SubT.nil _)); first | done | fail)) ?_; refine runs_to [] (by simp only [go_sem, hw, g1, g2, g3, hc1, hc2]; rfl) ?_) | (refine runD_lend (k98) cb98 (by rfl) (.inl (by simp only [go_sem, hw, g1, g2, g3, hc1, hc2]; rfl)) (by simp only [go_sem, lendL, lendV, lendA, lendAs, hw, g1, g2, g3, hc1, hc2]; rfl) (by ((repeat' (first | exact All2.nil | refine All2.cons ?_ ?_ | exact SubV.one (SubT.same _) | exact SubV.one (SubT.nil _) | refine SubV.agg ?_ | exact SubT.same _ | exact SubT.nil _)); first | done | fail)) (by rfl) ?_; refine runs_to [] (by simp only [go_sem, hw, g1, g2, g3, hc1, hc2]; rfl) ?_) | (refine awp_cond (b := _) (by simp only [go_sem, evB, hw, g1, g2, g3, hc1, hc2]; rfl) (fun hcond => ?_) (fun hcond => ?_))))
            exact ⟨i + 1, by omega, by omega, (by refine Imp.back 69 40 (by simp only [go_sem, renL, Loc.ren, Cont.ren, SV.ren, V1.ren, At.ren,  hn2, hmap]) (by simp only [go_sem, renL, Loc.ren, Cont.ren, SV.ren, V1.ren, At.ren,  hn2, hmap]) (by simp only [go_sem, renL, Loc.ren, Cont.ren, SV.ren, V1.ren, At.ren,  hn2, hmap]) (by decide) (by decide) ?_; refine Imp.of_in ?_; simp only [go_sem, renL, Loc.ren, Cont.ren, SV.ren, V1.ren, At.ren,  hn2, hmap])⟩
        | false =>
          have hn2 : kn n (l.take (i + 1)) = a := by rw [hn, addK, if_neg (by simp [g3])]
          (repeat' (first | refine thenL_n ?_ | refine thenL_r ?_ | refine thenL_x ?_ | refine blockL_n ?_ | refine blockL_r ?_ | refine blockL_x ?_ | refine blockL_y rfl ?_ | refine awp_seq ?_ | refine awp_block ?_ | refine awp_ret ?_ | refine awp_exit ?_ | refine awp_skip ?_ | exact absurd hcond (by decide) | (first | (refine awp_txt ?_; refine runs_to [] (by simp only [go_sem, hw, g1, g2, g3]; rfl) ?_) | (refine awp_draw mixed ?_; refine runs_to [] (by simp only [go_sem, hw, g1, g2, g3]; rfl) ?_)) | refine runD_nil ⟨by kernel_rfl, ?_⟩ | refine runD_nil ?_ | (refine runD_call (c97 _ _) cb97 (by rfl) (by simp only [go_sem, hw, g1, g2, g3]; rfl) (by ((repeat' (first | exact All2.nil | refine All2.cons ?_ ?_ | exact SubV.one (SubT.same _) | exact SubV.one (SubT.nil _) | refine SubV.agg ?_ | exact SubT.same _ | exact SubT.nil _)); first | done | fail)) ?_; refine runs_to [] (by simp only [go_sem, hw, g1, g2, g3]; rfl) ?_) | (refine awp_cond (b := _) (by simp only [go_sem, evB, hw, g1, g2, g3]; rfl) (fun hcond => ?_) (fun hcond => ?_))))
          exact ⟨i + 1, by omega, by omega, (by refine Imp.of_in ?_; simp only [go_sem, hn2])⟩
      · have hn2 : kn n (l.take (i + 1)) = a := by rw [hn, addK, if_neg (by simp [g2])]
        (repeat' (first | refine thenL_n ?_ | refine thenL_r ?_ | refine thenL_x ?_ | refine blockL_n ?_ | refine blockL_r ?_ | refine blockL_x ?_ | refine blockL_y rfl ?_ | refine awp_seq ?_ | refine awp_block ?_ | refine awp_ret ?_ | refine awp_exit ?_ | refine awp_skip ?_ | exact absurd hcond (by decide) | (first | (refine awp_txt ?_; refine runs_to [] (by simp only [go_sem, hw, g1, g2]; rfl) ?_) | (refine awp_draw mixed ?_; refine runs_to [] (by simp only [go_sem, hw, g1, g2]; rfl) ?_)) | refine runD_nil ⟨by kernel_rfl, ?_⟩ | refine runD_nil ?_ | (refine awp_cond (b := _) (by simp only [go_sem, evB, hw, g1, g2]; rfl) (fun hcond => ?_) (fun hcond => ?_))))
        exact ⟨i + 1, by omega, by omega, (by refine Imp.of_in ?_; simp only [go_sem, hn2])⟩
    · have hn2 : kn n (l.take (i + 1)) = a := by rw [hn, addK, if_neg (by simp [g1])]
      (repeat' (first | refine thenL_n ?_ | refine thenL_r ?_ | refine thenL_x ?_ | refine blockL_n ?_ | refine blockL_r ?_ | refine blockL_x ?_ | refine blockL_y rfl ?_ | refine awp_seq ?_ | refine awp_block ?_ | refine awp_ret ?_ | refine awp_exit ?_ | refine awp_skip ?_ | exact absurd hcond (by decide) | (first | (refine awp_txt ?_; refine runs_to [] (by simp only [go_sem, hw, g1]; rfl) ?_) | (refine awp_draw mixed ?_; refine runs_to [] (by simp only [go_sem, hw, g1]; rfl) ?_)) | refine runD_nil ⟨by kernel_rfl, ?_⟩ | refine runD_nil ?_ | (refine awp_cond (b := _) (by simp only [go_sem, evB, hw, g1]; rfl) (fun hcond => ?_) (fun hcond => ?_))))
      exact ⟨i + 1, by omega, by omega, (by refine Imp.of_in ?_; simp only [go_sem, hn2])⟩
  · have hta : l.take i = l := by rw [show i = l.length by omega, List.take_length]
    rw [hta] at hkl ⊢
    have hkx : ∀ q, q ∈ kn n l → q.x.ok := fun q hq => hx q ((kn_mem n l [] hq).resolve_left (by simp))
    refine awp_imp (Imp.freezeE 40 (by simp only [go_sem, fixL, Cont.fix, SV.fix, V1.fix, At.fix, cellsT, renL, Loc.ren, Cont.ren, SV.ren, V1.ren, At.ren, freezeL]; rfl) (by simp only [go_sem, fixL, Cont.fix, SV.fix, V1.fix, At.fix, cellsT, renL, Loc.ren, Cont.ren, SV.ren, V1.ren, At.ren, freezeL]; rfl)) ?_
    generalize kn n l = k at hkl hkx ⊢
    have hk8 : k.length * 152 ≤ 140737488351232 := by omega
    have hk9 : k.length ≤ 4611686018427387903 := by omega
    have k99 := c99 119 (.ptr [.lit (.int .i64 3)]) cb119 (fun q => q.x.st == 3) k hk9 (fun q _ => c119 q 3)
    obtain ⟨i1, i2⟩ := idx_lt (fun q => q.x.st == 3) k
    unfold dcK
    generalize idx (fun q => q.x.st == 3) k = ix at k99 i1 i2 ⊢
    by_cases e1 : 0 ≤ ix
    · obtain ⟨m, rfl⟩ := Int.eq_ofNat_of_zero_le e1
      have hml : m < k.length := by omega
      have hkm : k[m]? = some k[m] := List.getElem?_eq_getElem hml
      have hok := hkx k[m] (List.getElem_mem _)
      generalize k[m] = q at hkm hok
      rw [if_pos e1, Int.toNat_natCast, hkm]
      simp only
      have k101 := c101 [vRp k, .lit (.int .i64 n), .lit (.int .i64 leader)] rfl 1 q.x hok
      generalize plan 1 q.x = pp at k101
      ((repeat' (first | refine thenL_n ?_ | refine thenL_r ?_ | refine thenL_x ?_ | refine blockL_n ?_ | refine blockL_r ?_ | refine blockL_x ?_ | refine blockL_y rfl ?_ | refine awp_seq ?_ | refine awp_block ?_ | refine awp_ret ?_ | refine awp_exit ?_ | refine awp_skip ?_ | exact absurd hcond (by decide) | (first | (refine awp_txt ?_; refine runs_to [] (by simp only [go_sem, hlt, e1, hml, hkm]; rfl) ?_) | (refine awp_draw mixed ?_; refine runs_to [] (by simp only [go_sem, hlt, e1, hml, hkm]; rfl) ?_)) | refine runD_nil ⟨by kernel_rfl, ?_⟩ | refine runD_nil ?_ | (refine runD_call (c100 3) cb100 (by rfl) (by simp only [go_sem, hlt, e1, hml, hkm]; rfl) (by ((repeat' (first | exact All2.nil | refine All2.cons ?_ ?_ | exact SubV.one (SubT.same _) | exact SubV.one (SubT.nil _) | refine SubV.agg ?_ | exact SubT.same _ | exact SubT.nil _)); first | done | fail)) ?_; refine runs_to [] (by simp only [go_sem, hlt, e1, hml, hkm]; rfl) ?_) | (refine runD_call (k99) cb99 (by rfl) (by simp only [go_sem, hlt, e1, hml, hkm]; rfl) (by ((repeat' (first | exact All2.nil | refine All2.cons ?_ ?_ | exact SubV.one (SubT.same _) | exact SubV.one (SubT.nil _) | refine SubV.agg ?_ | exact SubT.same _ | exact SubT.nil _)); first | done | fail)) ?_; refine runs_to [] (by simp only [go_sem, hlt, e1, hml, hkm]; rfl) ?_) | (refine runD_call (k101) cb101 (by rfl) (by simp only [go_sem, hlt, e1, hml, hkm]; rfl) (by ((repeat' (first | exact All2.nil | refine All2.cons ?_ ?_ | exact SubV.one (SubT.same _) | exact SubV.one (SubT.nil _) | refine SubV.agg ?_ | exact SubT.same _ | exact SubT.nil _)); first | done | fail)) ?_; refine runs_to [] (by simp only [go_sem, hlt, e1, hml, hkm]; rfl) ?_) | (refine awp_cond (b := _) (by simp only [go_sem, evB, hlt, e1, hml, hkm]; rfl) (fun hcond => ?_) (fun hcond => ?_)))); all_goals (refine leaves_ok (by first | exact Or.inl rfl | exact Or.inr rfl) (by simp only [go_sem, resAll, resL, packL, vecsOf, freezeAll, freezeL, hlt, e1, hml, hkm]; rfl) ?_; (first | refine SubR.v ?_ | refine SubR.tup ?_); ((repeat' (first | exact All2.nil | refine All2.cons ?_ ?_ | exact SubV.one (SubT.same _) | exact SubV.one (SubT.nil _) | refine SubV.agg ?_ | exact SubT.same _ | exact SubT.nil _)); first | done | fail)))
    rw [if_neg e1]
    by_cases e2 : (k.length : Int) < maj n
    · rw [if_pos e2]
      ((repeat' (first | refine thenL_n ?_ | refine thenL_r ?_ | refine thenL_x ?_ | refine blockL_n ?_ | refine blockL_r ?_ | refine blockL_x ?_ | refine blockL_y rfl ?_ | refine awp_seq ?_ | refine awp_block ?_ | refine awp_ret ?_ | refine awp_exit ?_ | refine awp_skip ?_ | exact absurd hcond (by decide) | (first | (refine awp_txt ?_; refine runs_to [] (by simp only [go_sem, hlt, e1, e2, pl0]; rfl) ?_) | (refine awp_draw mixed ?_; refine runs_to [] (by simp only [go_sem, hlt, e1, e2, pl0]; rfl) ?_)) | refine runD_nil ⟨by kernel_rfl, ?_⟩ | refine runD_nil ?_ | (refine runD_call (c100 3) cb100 (by rfl) (by simp only [go_sem, hlt, e1, e2, pl0]; rfl) (by ((repeat' (first | exact All2.nil | refine All2.cons ?_ ?_ | exact SubV.one (SubT.same _) | exact SubV.one (SubT.nil _) | refine SubV.agg ?_ | exact SubT.same _ | exact SubT.nil _)); first | done | fail)) ?_; refine runs_to [] (by simp only [go_sem, hlt, e1, e2, pl0]; rfl) ?_) | (refine runD_call (k99) cb99 (by rfl) (by simp only [go_sem, hlt, e1, e2, pl0]; rfl) (by ((repeat' (first | exact All2.nil | refine All2.cons ?_ ?_ | exact SubV.one (SubT.same _) | exact SubV.one (SubT.nil _) | refine SubV.agg ?_ | exact SubT.same _ | exact SubT.nil _)); first | done | fail)) ?_; refine runs_to [] (by simp only [go_sem, hlt, e1, e2, pl0]; rfl) ?_) | (refine runD_call (c51 _) cb51 (by rfl) (by simp only [go_sem, hlt, e1, e2, pl0]; rfl) (by ((repeat' (first | exact All2.nil | refine All2.cons ?_ ?_ | exact SubV.one (SubT.same _) | exact SubV.one (SubT.nil _) | refine SubV.agg ?_ | exact SubT.same _ | exact SubT.nil _)); first | done | fail)) ?_; refine runs_to [] (by simp only [go_sem, hlt, e1, e2, pl0]; rfl) ?_) | (refine awp_cond (b := _) (by simp only [go_sem, evB, hlt, e1, e2, pl0]; rfl) (fun hcond => ?_) (fun hcond => ?_)))); all_goals (refine leaves_ok (by first | exact Or.inl rfl | exact Or.inr rfl) (by simp only [go_sem, resAll, resL, packL, vecsOf, freezeAll, freezeL, hlt, e1, e2, pl0]; rfl) ?_; (first | refine SubR.v ?_ | refine SubR.tup ?_); ((repeat' (first | exact All2.nil | refine All2.cons ?_ ?_ | exact SubV.one (SubT.same _) | exact SubV.one (SubT.nil _) | refine SubV.agg ?_ | exact SubT.same _ | exact SubT.nil _)); first | done | fail)))
    rw [if_neg e2]
    have kw102 := c102 119 (.ptr [.lit (.int .i64 2)]) cb119 (fun q => q.x.st == 2) k hk9 (fun q _ => c119 q 2)
    have m2 : ∀ {q : RP}, pk (fun q => q.x.st == 2) k = some q → q ∈ k := fun h => (pk_mem _ k none h).resolve_left (by simp)
    cases e3 : pk (fun q => q.x.st == 2) k with
    | some q =>
      have k101 := c101 [vRp k, .lit (.int .i64 n), .lit (.int .i64 leader)] rfl 2 q.x (hkx q (m2 e3))
      rw [e3] at kw102
      simp only [Option.getD_some, Option.isSome_some] at kw102
      simp only
      generalize plan 2 q.x = pp at k101
      ((repeat' (first | refine thenL_n ?_ | refine thenL_r ?_ | refine thenL_x ?_ | refine blockL_n ?_ | refine blockL_r ?_ | refine blockL_x ?_ | refine blockL_y rfl ?_ | refine awp_seq ?_ | refine awp_block ?_ | refine awp_ret ?_ | refine awp_exit ?_ | refine awp_skip ?_ | exact absurd hcond (by decide) | (first | (refine awp_txt ?_; refine runs_to [] (by simp only [go_sem, hlt, e1, e2]; rfl) ?_) | (refine awp_draw mixed ?_; refine runs_to [] (by simp only [go_sem, hlt, e1, e2]; rfl) ?_)) | refine runD_nil ⟨by kernel_rfl, ?_⟩ | refine runD_nil ?_ | (refine runD_call (c100 3) cb100 (by rfl) (by simp only [go_sem, hlt, e1, e2]; rfl) (by ((repeat' (first | exact All2.nil | refine All2.cons ?_ ?_ | exact SubV.one (SubT.same _) | exact SubV.one (SubT.nil _) | refine SubV.agg ?_ | exact SubT.same _ | exact SubT.nil _)); first | done | fail)) ?_; refine runs_to [] (by simp only [go_sem, hlt, e1, e2]; rfl) ?_) | (refine runD_call (k99) cb99 (by rfl) (by simp only [go_sem, hlt, e1, e2]; rfl) (by ((repeat' (first | exact All2.nil | refine All2.cons ?_ ?_ | exact SubV.one (SubT.same _) | exact SubV.one (SubT.nil _) | refine SubV.agg ?_ | exact SubT.same _ | exact SubT.nil _)); first | done | fail)) ?_; refine runs_to [] (by simp only [go_sem, hlt, e1, e2]; rfl) ?_) | (refine runD_call (c51 _) cb51 (by rfl) (by simp only [go_sem, hlt, e1, e2]; rfl) (by ((repeat' (first | exact All2.nil | refine All2.cons ?_ ?_ | exact SubV.one (SubT.same _) | exact SubV.one (SubT.nil _) | refine SubV.agg ?_ | exact SubT.same _ | exact SubT.nil _)); first | done | fail)) ?_; refine runs_to [] (by simp only [go_sem, hlt, e1, e2]; rfl) ?_) | (refine runD_call (c100 2) cb100 (by rfl) (by simp only [go_sem, hlt, e1, e2]; rfl) (by ((repeat' (first | exact All2.nil | refine All2.cons ?_ ?_ | exact SubV.one (SubT.same _) | exact SubV.one (SubT.nil _) | refine SubV.agg ?_ | exact SubT.same _ | exact SubT.nil _)); first | done | fail)) ?_; refine runs_to [] (by simp only [go_sem, hlt, e1, e2]; rfl) ?_) | (refine runD_call (kw102) cb102 (by rfl) (by simp only [go_sem, hlt, e1, e2]; rfl) (by ((repeat' (first | exact All2.nil | refine All2.cons ?_ ?_ | exact SubV.one (SubT.same _) | exact SubV.one (SubT.nil _) | refine SubV.agg ?_ | exact SubT.same _ | exact SubT.nil _)); first | done | fail)) ?_; refine runs_to [] (by simp only [go_sem, hlt, e1, e2]; rfl) ?_) | (refine runD_call (k101) cb101 (by rfl) (by simp only [go_sem, hlt, e1, e2]; rfl) (by ((repeat' (first | exact All2.nil | refine All2.cons ?_ ?_ | exact SubV.one (SubT.same _) | exact SubV.one (SubT.nil _) | refine SubV.agg ?_ | exact SubT.same _ | exact SubT.nil _)); first | done | fail)) ?_; refine runs_to [] (by simp only [go_sem, hlt, e1, e2]; rfl) ?_) | (refine awp_cond (b := _) (by simp only [go_sem, evB, hlt, e1, e2]; rfl) (fun hcond => ?_) (fun hcond => ?_)))); all_goals (refine leaves_ok (by first | exact Or.inl rfl | exact Or.inr rfl) (by simp only [go_sem, resAll, resL, packL, vecsOf, freezeAll, freezeL, hlt, e1, e2]; rfl) ?_; (first | refine SubR.v ?_ | refine SubR.tup ?_); ((repeat' (first | exact All2.nil | refine All2.cons ?_ ?_ | exact SubV.one (SubT.same _) | exact SubV.one (SubT.nil _) | refine SubV.agg ?_ | exact SubT.same _ | exact SubT.nil _)); first | done | fail)))
    | none =>
      rw [e3] at kw102
      simp only [Option.getD_none, Option.isSome_none] at kw102
      simp only
      have k103 := c103 n leader k hk8
      cases e4 : wt n leader k with
      | some q =>
        have k101 := c101 [vRp k, .lit (.int .i64 n), .lit (.int .i64 leader)] rfl 2 q.x (hkx q (wt_mem e4))
        rw [e4] at k103
        simp only [Option.getD_some, Option.isSome_some] at k103
        simp only
        generalize plan 2 q.x = pp at k101
        ((repeat' (first | refine thenL_n ?_ | refine thenL_r ?_ | refine thenL_x ?_ | refine blockL_n ?_ | refine blockL_r ?_ | refine blockL_x ?_ | refine blockL_y rfl ?_ | refine awp_seq ?_ | refine awp_block ?_ | refine awp_ret ?_ | refine awp_exit ?_ | refine awp_skip ?_ | exact absurd hcond (by decide) | (first | (refine awp_txt ?_; refine runs_to [] (by simp only [go_sem, hlt, e1, e2]; rfl) ?_) | (refine awp_draw mixed ?_; refine runs_to [] (by simp only [go_sem, hlt, e1, e2]; rfl) ?_)) | refine runD_nil ⟨by kernel_rfl, ?_⟩ | refine runD_nil ?_ | (refine runD_call (c100 3) cb100 (by rfl) (by simp only [go_sem, hlt, e1, e2]; rfl) (by ((repeat' (first | exact All2.nil | refine All2.cons ?_ ?_ | exact SubV.one (SubT.same _) | exact SubV.one (SubT.nil _) | refine SubV.agg ?_ | exact SubT.same _ | exact SubT.nil _)); first | done | fail)) ?_; refine runs_to [] (by simp only [go_sem, hlt, e1, e2]; rfl) ?_) | (refine runD_call (k99) cb99 (by rfl) (by simp only [go_sem, hlt, e1, e2]; rfl) (by ((repeat' (first | exact All2.nil | refine All2.cons ?_ ?_ | exact SubV.one (SubT.same _) | exact SubV.one (SubT.nil _) | refine SubV.agg ?_ | exact SubT.same _ | exact SubT.nil _)); first | done | fail)) ?_; refine runs_to [] (by simp only [go_sem, hlt, e1, e2]; rfl) ?_) | (refine runD_call (c51 _) cb51 (by rfl) (by simp only [go_sem, hlt, e1, e2]; rfl) (by ((repeat' (first | exact All2.nil | refine All2.cons ?_ ?_ | exact SubV.one (SubT.same _) | exact SubV.one (SubT.nil _) | refine SubV.agg ?_ | exact SubT.same _ | exact SubT.nil _)); first | done | fail)) ?_; refine runs_to [] (by simp only [go_sem, hlt, e1, e2]; rfl) ?_) | (refine runD_call (c100 2) cb100 (by rfl) (by simp only [go_sem, hlt, e1, e2]; rfl) (by ((repeat' (first | exact All2.nil | refine All2.cons ?_ ?_ | exact SubV.one (SubT.same _) | exact SubV.one (SubT.nil _) | refine SubV.agg ?_ | exact SubT.same _ | exact SubT.nil _)); first | done | fail)) ?_; refine runs_to [] (by simp only [go_sem, hlt, e1, e2]; rfl) ?_) | (refine runD_call (kw102) cb102 (by rfl) (by simp only [go_sem, hlt, e1, e2]; rfl) (by ((repeat' (first | exact All2.nil | refine All2.cons ?_ ?_ | exact SubV.one (SubT.same _) | exact SubV.one (SubT.nil _) | refine SubV.agg ?_ | exact SubT.same _ | exact SubT.nil _)); first | done | fail)) ?_; refine runs_to [] (by simp only [go_sem, hlt, e1, e2]; rfl) ?_) | (refine runD_call (k103) cb103 (by rfl) (by simp only [go_sem, hlt, e1, e2]; rfl) (by ((repeat' (first | exact All2.nil | refine All2.cons ?_ ?_ | exact SubV.one (SubT.same _) | exact SubV.one (SubT.nil _) | refine SubV.agg ?_ | exact SubT.same _ | exact SubT.nil _)); first | done | fail)) ?_; refine runs_to [] (by simp only [go_sem, hlt, e1, e2]; rfl) ?_) | (refine runD_call (k101) cb101 (by rfl) (by simp only [go_sem, hlt, e1, e2]; rfl) (by ((repeat' (first | exact All2.nil | refine All2.cons ?_ ?_ | exact SubV.one (SubT.same _) | exact SubV.one (SubT.nil _) | refine SubV.agg ?_ | exact SubT.same _ | exact SubT.nil _)); first | done | fail)) ?_; refine runs_to [] (by simp only [go_sem, hlt, e1, e2]; rfl) ?_) | (refine awp_cond (b := _) (by simp only [go_sem, evB, hlt, e1, e2]; rfl) (fun hcond => ?_) (fun hcond => ?_)))); all_goals (refine leaves_ok (by first | exact Or.inl rfl | exact Or.inr rfl) (by simp only [go_sem, resAll, resL, packL, vecsOf, freezeAll, freezeL, hlt, e1, e2]; rfl) ?_; (first | refine SubR.v ?_ | refine SubR.tup ?_); ((repeat' (first | exact All2.nil | refine All2.cons ?_ ?_ | exact SubV.one (SubT.same _) | exact SubV.one (SubT.nil _) | refine SubV.agg ?_ | exact SubT.same _ | exact SubT.nil _)); first | done | fail)))
      | none =>
        rw [e4] at k103
        simp only [Option.getD_none, Option.isSome_none] at k103
        simp only
        have kww102 := c102 119 (.ptr [.lit (.int .i64 1)]) cb119 (fun q => q.x.st == 1) k hk9 (fun q _ => c119 q 1)
        have m1 : ∀ {q : RP}, pk (fun q => q.x.st == 1) k = some q → q ∈ k := fun h => (pk_mem _ k none h).resolve_left (by simp)
        cases e5 : pk (fun q => q.x.st == 1) k with
        | some q =>
          have k101 := c101 [vRp k, .lit (.int .i64 n), .lit (.int .i64 leader)] rfl 3 q.x (hkx q (m1 e5))
          rw [e5] at kww102
          simp only [Option.getD_some, Option.isSome_some] at kww102
          simp only
          generalize plan 3 q.x = pp at k101
          ((repeat' (first | refine thenL_n ?_ | refine thenL_r ?_ | refine thenL_x ?_ | refine blockL_n ?_ | refine blockL_r ?_ | refine blockL_x ?_ | refine blockL_y rfl ?_ | refine awp_seq ?_ | refine awp_block ?_ | refine awp_ret ?_ | refine awp_exit ?_ | refine awp_skip ?_ | exact absurd hcond (by decide) | (first | (refine awp_txt ?_; refine runs_to [] (by simp only [go_sem, hlt, e1, e2]; rfl) ?_) | (refine awp_draw mixed ?_; refine runs_to [] (by simp only [go_sem, hlt, e1, e2]; rfl) ?_)) | refine runD_nil ⟨by kernel_rfl, ?_⟩ | refine runD_nil ?_ | (refine runD_call (c100 3) cb100 (by rfl) (by simp only [go_sem, hlt, e1, e2]; rfl) (by ((repeat' (first | exact All2.nil | refine All2.cons ?_ ?_ | exact SubV.one (SubT.same _) | exact SubV.one (SubT.nil _) | refine SubV.agg ?_ | exact SubT.same _ | exact SubT.nil _)); first | done | fail)) ?_; refine runs_to [] (by simp only [go_sem, hlt, e1, e2]; rfl) ?_) | (refine runD_call (k99) cb99 (by rfl) (by simp only [go_sem, hlt, e1, e2]; rfl) (by ((repeat' (first | exact All2.nil | refine All2.cons ?_ ?_ | exact SubV.one (SubT.same _) | exact SubV.one (SubT.nil _) | refine SubV.agg ?_ | exact SubT.same _ | exact SubT.nil _)); first | done | fail)) ?_; refine runs_to [] (by simp only [go_sem, hlt, e1, e2]; rfl) ?_) | (refine runD_call (c51 _) cb51 (by rfl) (by simp only [go_sem, hlt, e1, e2]; rfl) (by ((repeat' (first | exact All2.nil | refine All2.cons ?_ ?_ | exact SubV.one (SubT.same _) | exact SubV.one (SubT.nil _) | refine SubV.agg ?_ | exact SubT.same _ | exact SubT.nil _)); first | done | fail)) ?_; refine runs_to [] (by simp only [go_sem, hlt, e1, e2]; rfl) ?_) | (refine runD_call (c100 2) cb100 (by rfl) (by simp only [go_sem, hlt, e1, e2]; rfl) (by ((repeat' (first | exact All2.nil | refine All2.cons ?_ ?_ | exact SubV.one (SubT.same _) | exact SubV.one (SubT.nil _) | refine SubV.agg ?_ | exact SubT.same _ | exact SubT.nil _)); first | done | fail)) ?_; refine runs_to [] (by simp only [go_sem, hlt, e1, e2]; rfl) ?_) | (refine runD_call (kw102) cb102 (by rfl) (by simp only [go_sem, hlt, e1, e2]; rfl) (by ((repeat' (first | exact All2.nil | refine All2.cons ?_ ?_ | exact SubV.one (SubT.same _) | exact SubV.one (SubT.nil _) | refine SubV.agg ?_ | exact SubT.same _ | exact SubT.nil _)); first | done | fail)) ?_; refine runs_to [] (by simp only [go_sem, hlt, e1, e2]; rfl) ?_) | (refine runD_call (k103) cb103 (by rfl) (by simp only [go_sem, hlt, e1, e2]; rfl) (by ((repeat' (first | exact All2.nil | refine All2.cons ?_ ?_ | exact SubV.one (SubT.same _) | exact SubV.one (SubT.nil _) | refine SubV.agg ?_ | exact SubT.same _ | exact SubT.nil _)); first | done | fail)) ?_; refine runs_to [] (by simp only [go_sem, hlt, e1, e2]; rfl) ?_) | (refine runD_call (c100 1) cb100 (by rfl) (by simp only [go_sem, hlt, e1, e2]; rfl) (by ((repeat' (first | exact All2.nil | refine All2.cons ?_ ?_ | exact SubV.one (SubT.same _) | exact SubV.one (SubT.nil _) | refine SubV.agg ?_ | exact SubT.same _ | exact SubT.nil _)); first | done | fail)) ?_; refine runs_to [] (by simp only [go_sem, hlt, e1, e2]; rfl) ?_) | (refine runD_call (kww102) cb102 (by rfl) (by simp only [go_sem, hlt, e1, e2]; rfl) (by ((repeat' (first | exact All2.nil | refine All2.cons ?_ ?_ | exact SubV.one (SubT.same _) | exact SubV.one (SubT.nil _) | refine SubV.agg ?_ | exact SubT.same _ | exact SubT.nil _)); first | done | fail)) ?_; refine runs_to [] (by simp only [go_sem, hlt, e1, e2]; rfl) ?_) | (refine runD_call (k101) cb101 (by rfl) (by simp only [go_sem, hlt, e1, e2]; rfl) (by ((repeat' (first | exact All2.nil | refine All2.cons ?_ ?_ | exact SubV.one (SubT.same _) | exact SubV.one (SubT.nil _) | refine SubV.agg ?_ | exact SubT.same _ | exact SubT.nil _)); first | done | fail)) ?_; refine runs_to [] (by simp only [go_sem, hlt, e1, e2]; rfl) ?_) | (refine awp_cond (b := _) (by simp only [go_sem, evB, hlt, e1, e2]; rfl) (fun hcond => ?_) (fun hcond => ?_)))); all_goals (refine leaves_ok (by first | exact Or.inl rfl | exact Or.inr rfl) (by simp only [go_sem, resAll, resL, packL, vecsOf, freezeAll, freezeL, hlt, e1, e2]; rfl) ?_; (first | refine SubR.v ?_ | refine SubR.tup ?_); ((repeat' (first | exact All2.nil | refine All2.cons ?_ ?_ | exact SubV.one (SubT.same _) | exact SubV.one (SubT.nil _) | refine SubV.agg ?_ | exact SubT.same _ | exact SubT.nil _)); first | done | fail)))
        | none =>
          rw [e5] at kww102
          simp only [Option.getD_none, Option.isSome_none] at kww102
          simp only
          have k104 := c104 n h1
          generalize List.replicate n.toNat (0 : Int) = z at k104 ⊢
          ((repeat' (first | refine thenL_n ?_ | refine thenL_r ?_ | refine thenL_x ?_ | refine blockL_n ?_ | refine blockL_r ?_ | refine blockL_x ?_ | refine blockL_y rfl ?_ | refine awp_seq ?_ | refine awp_block ?_ | refine awp_ret ?_ | refine awp_exit ?_ | refine awp_skip ?_ | exact absurd hcond (by decide) | (first | (refine awp_txt ?_; refine runs_to [] (by simp only [go_sem, hlt, e1, e2]; rfl) ?_) | (refine awp_draw mixed ?_; refine runs_to [] (by simp only [go_sem, hlt, e1, e2]; rfl) ?_)) | refine runD_nil ⟨by kernel_rfl, ?_⟩ | refine runD_nil ?_ | (refine runD_call (c100 3) cb100 (by rfl) (by simp only [go_sem, hlt, e1, e2]; rfl) (by ((repeat' (first | exact All2.nil | refine All2.cons ?_ ?_ | exact SubV.one (SubT.same _) | exact SubV.one (SubT.nil _) | refine SubV.agg ?_ | exact SubT.same _ | exact SubT.nil _)); first | done | fail)) ?_; refine runs_to [] (by simp only [go_sem, hlt, e1, e2]; rfl) ?_) | (refine runD_call (k99) cb99 (by rfl) (by simp only [go_sem, hlt, e1, e2]; rfl) (by ((repeat' (first | exact All2.nil | refine All2.cons ?_ ?_ | exact SubV.one (SubT.same _) | exact SubV.one (SubT.nil _) | refine SubV.agg ?_ | exact SubT.same _ | exact SubT.nil _)); first | done | fail)) ?_; refine runs_to [] (by simp only [go_sem, hlt, e1, e2]; rfl) ?_) | (refine runD_call (c51 _) cb51 (by rfl) (by simp only [go_sem, hlt, e1, e2]; rfl) (by ((repeat' (first | exact All2.nil | refine All2.cons ?_ ?_ | exact SubV.one (SubT.same _) | exact SubV.one (SubT.nil _) | refine SubV.agg ?_ | exact SubT.same _ | exact SubT.nil _)); first | done | fail)) ?_; refine runs_to [] (by simp only [go_sem, hlt, e1, e2]; rfl) ?_) | (refine runD_call (c100 2) cb100 (by rfl) (by simp only [go_sem, hlt, e1, e2]; rfl) (by ((repeat' (first | exact All2.nil | refine All2.cons ?_ ?_ | exact SubV.one (SubT.same _) | exact SubV.one (SubT.nil _) | refine SubV.agg ?_ | exact SubT.same _ | exact SubT.nil _)); first | done | fail)) ?_; refine runs_to [] (by simp only [go_sem, hlt, e1, e2]; rfl) ?_) | (refine runD_call (kw102) cb102 (by rfl) (by simp only [go_sem, hlt, e1, e2]; rfl) (by ((repeat' (first | exact All2.nil | refine All2.cons ?_ ?_ | exact SubV.one (SubT.same _) | exact SubV.one (SubT.nil _) | refine SubV.agg ?_ | exact SubT.same _ | exact SubT.nil _)); first | done | fail)) ?_; refine runs_to [] (by simp only [go_sem, hlt, e1, e2]; rfl) ?_) | (refine runD_call (k103) cb103 (by rfl) (by simp only [go_sem, hlt, e1, e2]; rfl) (by ((repeat' (first | exact All2.nil | refine All2.cons ?_ ?_ | exact SubV.one (SubT.same _) | exact SubV.one (SubT.nil _) | refine SubV.agg ?_ | exact SubT.same _ | exact SubT.nil _)); first | done | fail)) ?_; refine runs_to [] (by simp only [go_sem, hlt, e1, e2]; rfl) ?_) | (refine runD_call (c100 1) cb100 (by rfl) (by simp only [go_sem, hlt, e1, e2]; rfl) (by ((repeat' (first | exact All2.nil | refine All2.cons ?_ ?_ | exact SubV.one (SubT.same _) | exact SubV.one (SubT.nil _) | refine SubV.agg ?_ | exact SubT.same _ | exact SubT.nil _)); first | done | fail)) ?_; refine runs_to [] (by simp only [go_sem, hlt, e1, e2]; rfl) ?_) | (refine runD_call (kww102) cb102 (by rfl) (by simp only [go_sem, hlt, e1, e2]; rfl) (by ((repeat' (first | exact All2.nil | refine All2.cons ?_ ?_ | exact SubV.one (SubT.same _) | exact SubV.one (SubT.nil _) | refine SubV.agg ?_ | exact SubT.same _ | exact SubT.nil _)); first | done | fail)) ?_; refine runs_to [] (by simp only [go_sem, hlt, e1, e2]; rfl) ?_) | (refine runD_call (k104) cb104 (by rfl) (by simp only [go_sem, hlt, e1, e2]; rfl) (by ((repeat' (first | exact All2.nil | refine All2.cons ?_ ?_ | exact SubV.one (SubT.same _) | exact SubV.one (SubT.nil _) | refine SubV.agg ?_ | exact SubT.same _ | exact SubT.nil _)); first | done | fail)) ?_; refine runs_to [] (by simp only [go_sem, hlt, e1, e2]; rfl) ?_) | (refine awp_cond (b := _) (by simp only [go_sem, evB, hlt, e1, e2]; rfl) (fun hcond => ?_) (fun hcond => ?_)))); all_goals (refine leaves_ok (by first | exact Or.inl rfl | exact Or.inr rfl) (by simp only [go_sem, resAll, resL, packL, vecsOf, freezeAll, freezeL, hlt, e1, e2]; rfl) ?_; (first | refine SubR.v ?_ | refine SubR.tup ?_); ((repeat' (first | exact All2.nil | refine All2.cons ?_ ?_ | exact SubV.one (SubT.same _) | exact SubV.one (SubT.nil _) | refine SubV.agg ?_ | exact SubT.same _ | exact SubT.nil _)); first | done | fail)))
end Go.Proofs.Ytbohgpdpglfepaa
