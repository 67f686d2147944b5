import Derived.Test.YtbohgpdpglfepaaB3
set_option maxHeartbeats 4000000
set_option maxRecDepth 10000
set_option linter.unusedVariables false
set_option linter.unusedSimpArgs false
namespace Go.Proofs.Ytbohgpdpglfepaa
open Go.AM Go.RowKit
attribute [local irreducible] AWP thenL blockL AM.Leaves LeavesO RunD
attribute [local go_sem] runs stepR actF inF frzA frzW lastW act act1 actPick actNil actBin
  actUn actConv actExtract actFieldAddr actField actAlloc keysOf actBox actLoad treesOf actStore actIndex
  actLen actMx srcL actAppend actMake actBuild actBuildSlice boundL actSlice actCall actEqS isStruct
  isSlice actText actCopy litsOf kindsOK fieldsPlain eqAll eqop dstB dstN boolS litB
  litV sv binv unv lits takeC cellsR trees cellsW mxv repl parts
  fillAt fillRows V1.cs mkV ev evr AM.look put del applyL delD wrD
  undefS SV.to V1.to At.to keysL notIn freshKey PV.up PR.up entry entryV evp
  isAt actPtrNil capsL actFunc sameV sameVs pureCtx doc mkVar AM.Loc.key Cont.keys SV.keys
  V1.keys At.keys Cont.sub SV.sub V1.sub At.sub guardR argsL callR Nat.blt_eq Nat.blt Nat.ble
  Nat.beq_eq_true_eq beq_self_eq_true Array.toList List.map List.append_eq List.nil_append List.cons_append List.append_nil List.append_assoc Bool.and_eq_true decide_true decide_false
  decide_eq_true_eq Bool.not_true Bool.not_false reduceCtorEq if_true if_false ite_true ite_false reduceIte AM.Loc.slot.injEq AM.Loc.cell.injEq AM.Loc.vec.injEq
  List.getElem?_cons_zero List.getElem?_cons_succ List.getElem?_nil Option.map_some Option.map_none Option.toList List.flatMap_nil List.flatMap_cons Bool.and_true Bool.true_and Bool.and_false Bool.false_and
  Bool.true_eq_false Bool.false_eq_true Nat.reduceBEq Nat.reduceEqDiff bool_beq_tt bool_beq_ff bool_beq_tf bool_beq_ft List.length_cons List.length_nil List.drop List.take
  List.drop_zero List.take_zero List.all_cons List.all_nil Value.oneCell' Nat.zero_add Nat.reduceAdd Nat.reduceMul Nat.reduceSub Nat.reduceLT Nat.reduceLeDiff Int.reduceLT
  Int.reduceLE Int.reduceEq Int.reduceBEq Int.reduceBNe Int.reduceAdd Int.reduceSub Int.reduceMul Int.reduceNeg Int.reduceToNat Nat.succ_ne_zero List.replicate and_true
  true_and and_false false_and and_self ge_iff_le gt_iff_lt bne_self_eq_false List.zip_cons_cons List.zip_nil_left List.zip List.zipWith Int.natCast_nonneg
  Int.toNat_natCast List.getElem?_map List.length_map sT sI sB sR sP rV AllIn Int.toNat_zero Int.ofNat_zero
  Int.natCast_zero Nat.le_refl List.mapM_cons List.mapM_nil Option.bind_eq_bind Option.bind_some Option.pure_def List.set_cons_zero List.set_cons_succ List.length_set tt2 tt3
  tt4 tt5 tt9 tt12 tt21 tt22 tt23 tt24 tt25 tt36 tt37 tt43
  tt44 tt51 tt52 tt53 tt59 tt67 tt68 tt69 tt74 tt75 tt76 tt77
  tt78 tt79 tt89 tt92 tt95 tt96 tt97 tt98 tt99 tt102 tt103 tt106
  tt107 tt108 tt114 tt115 tt116 tt117 tt118 tt119 tt120 tt122 tt124 tt125
  tt126 tt127 tt130 tt131 tt132 tt133 tt134 tt135 tt137 tt138 tt139 tt147
  tt148 tt149 tt159 tt164 tt165 tt167 tt168 tt169 tt170 tt171 tt190 tt191
  tt194 tt200 tt208 tt212
attribute [local go_sem] vlit bal rInt rBool vInts pInts vvInts vPairs att vAtts vBy cm iv vvBy lI lB rpL vRp rK plL tK vK ivL runL

/-! #### plain: who is known -/
theorem addK_nodup {n : Int} {a : List RP} {r : RP} (h : (a.map (·.f)).Nodup) : ((addK n a r).map (·.f)).Nodup := by
  unfold addK
  split
  · rename_i hc
    rw [List.map_append, List.nodup_append]
    refine ⟨h, by simp, fun x hx y hy => ?_⟩
    simp at hy; subst hy
    rintro rfl
    obtain ⟨q, hq, he⟩ := List.mem_map.1 hx
    simp only [Bool.and_eq_true, Bool.not_eq_true', List.any_eq_false] at hc
    have := hc.2 q hq
    simp only [beq_iff_eq] at this
    exact this he
  · exact h
theorem kn_nodup {n : Int} : ∀ (l a : List RP), (a.map (·.f)).Nodup → ((l.foldl (addK n) a).map (·.f)).Nodup
  | [], a, h => h
  | r :: l, a, h => kn_nodup l _ (addK_nodup h)
theorem filter_two {α : Type} (p : α → Bool) : ∀ l : List α, (l.filter p).length + (l.filter fun q => !p q).length = l.length
  | [] => rfl
  | a :: l => by
    have := filter_two p l
    cases h : p a <;> simp [h] <;> omega

def prP (z : IN) (b1 b2 : Int) : IN × Bool := (if goB z b1 b2 then { z with p1 := b1, p2 := b2 } else z, goB z b1 b2)
theorem pk_no0 {p : RP → Bool} : ∀ {l : List RP} (b : Option RP), (∀ q, q ∈ l → p q = false) → l.foldl (pk1 p) b = b
  | [], b, _ => rfl
  | r :: l, b, h => by
    rw [List.foldl_cons, pk1_no (h r (by simp)), pk_no0 b fun q hq => h q (by simp [hq])]
/-- What a replica tells when it is asked with a ballot of its own. -/
def mkL (x : RN) (ls : List IN) (r : Int) : RP := ⟨r, (prP ((ls[r.toNat]?).getD (zI x)) 1 r).1⟩
def latB (x : RN) (r : Int) : Bool := decide (0 ≤ r) && decide (r < x.N) && decide (r ≠ x.L)
def lat (x : RN) (ls : List IN) (l : List Int) : List RP := (l.filter (latB x)).map (mkL x ls)

section
variable {x : RN} (hx : x.ok) {ls : List IN} {t : TY} (h : PI x ls t)
include hx h

theorem mkL_x {r : Int} (hr : 0 ≤ r ∧ r < x.N) : ((mkL x ls r).x = { zI x with p1 := 1, p2 := r } ∧ r ∉ t.who) ∨ ∃ S D m, (mkL x ls r).x = { pI x S D m with p1 := 1, p2 := r } ∧ r ∈ t.who ∧ (t.ag = true → S = x.s ∧ D = x.d ∧ m = true) := by
  obtain ⟨n, rfl⟩ := Int.eq_ofNat_of_zero_le hr.1
  have hn7 := hx.n7
  have hl := h.len
  have hnl : n < ls.length := by omega
  have hz : ls[n]? = some ls[n] := List.getElem?_eq_getElem hnl
  unfold mkL
  rw [Int.toNat_natCast, hz, Option.getD_some]
  have hb : balOK 1 n = true := by simp [balOK]; omega
  rcases h.each n _ hz with ⟨e1, e2⟩ | ⟨S, D, m, e1, e2, e3, e4, e5⟩
  · left
    have hg : goB (zI x) 1 n = true := by
      have : less 1 n (zI x).p1 (zI x).p2 = false := by simp [less, zI]
      unfold goB
      rw [hb, this]; rfl
    rw [e1, prP, if_pos hg]
    exact ⟨rfl, e2⟩
  · right
    have hg : goB (pI x S D m) 1 n = true := by
      have : less 1 n (pI x S D m).p1 (pI x S D m).p2 = false := by simp [less, pI]
      unfold goB
      rw [hb, this]; rfl
    refine ⟨S, D, m, ?_, e4, e5⟩
    rw [e1, prP, if_pos hg]
theorem lat_ok {l : List Int} : ∀ q, q ∈ lat x ls l → q.x.ok := by
  intro q hq
  obtain ⟨r, hr, rfl⟩ := List.mem_map.1 hq
  have hr2 := (List.mem_filter.1 hr).2
  simp only [latB, Bool.and_eq_true, decide_eq_true_eq] at hr2
  obtain ⟨n, rfl⟩ := Int.eq_ofNat_of_zero_le hr2.1.1
  have hl := h.len
  have hnl : n < ls.length := by omega
  have hz : ls[n]? = some ls[n] := List.getElem?_eq_getElem hnl
  have hok := PI_ok hx h hz
  unfold mkL
  rw [Int.toNat_natCast, hz, Option.getD_some]
  unfold prP
  simp only
  split
  · exact ⟨hok.c, hok.d⟩
  · exact hok

theorem keeps (hch : (chS t).1 = 1) (l : List Int) : (chS t = (1, x.s, x.d)) ∧ (dc x.N x.L (lat x ls l) = pl0 ∨ dc x.N x.L (lat x ls l) = ⟨2, x.k, x.h, x.c, x.s, x.d⟩) := by
  have hn1 := hx.n1
  have hn7 := hx.n7
  have hL := hx.l
  -- the choice
  have hc : maj t.n ≤ t.who.length ∧ (t.first && t.ag) = true ∧ fast t.n ≤ t.who.length := by
    unfold chS at hch
    split at hch
    · rename_i c1
      split at hch
      · rename_i c2
        split at hch
        · rename_i c3; exact ⟨c1, c2, c3⟩
        · simp at hch
      · simp at hch
    · simp at hch
  obtain ⟨c1, c2, c3⟩ := hc
  refine ⟨by unfold chS; rw [if_pos c1, if_pos c2, if_pos c3, h.ts, h.td], ?_⟩
  have hag : t.ag = true := by simp only [Bool.and_eq_true] at c2; exact c2.2
  rw [h.tn] at c1 c3
  have hmaj := maj_in (n := (x.N : Int)) ⟨by omega, by omega⟩
  have hfast : fast (x.N : Int) = mx2 ((x.N : Int) - 1) (maj x.N) := by unfold fast; rw [if_pos (by omega)]
  unfold dc
  rw [if_pos (by omega)]
  have hmem : ∀ q, q ∈ kn x.N (lat x ls l) → ∃ r : Int, (0 ≤ r ∧ r < x.N) ∧ r ≠ x.L ∧ q = mkL x ls r := by
    intro q hq
    have := (kn_mem x.N (lat x ls l) [] hq).resolve_left (by simp)
    obtain ⟨r, hr, rfl⟩ := List.mem_map.1 this
    have hr2 := (List.mem_filter.1 hr).2
    simp only [latB, Bool.and_eq_true, decide_eq_true_eq] at hr2
    exact ⟨r, ⟨by omega, by omega⟩, hr2.2, rfl⟩
  have hnd : ((kn x.N (lat x ls l)).map (·.f)).Nodup := kn_nodup _ [] (by simp)
  generalize kn x.N (lat x ls l) = K at hmem hnd
  have hst : ∀ q, q ∈ K → (q.x.st = 0 ∧ q.f ∉ t.who) ∨ (wit q = true ∧ plan 2 q.x = ⟨2, x.k, x.h, x.c, x.s, x.d⟩ ∧ q.x.st = 1) := by
    intro q hq
    obtain ⟨r, hr, _, rfl⟩ := hmem q hq
    rcases mkL_x hx h hr with ⟨e1, e2⟩ | ⟨S, D, m, e1, e2, e3⟩
    · left; exact ⟨by rw [e1]; rfl, e2⟩
    · right
      obtain ⟨rfl, rfl, rfl⟩ := e3 hag
      refine ⟨?_, ?_, by rw [e1]; rfl⟩
      · unfold wit; rw [e1]; rfl
      · rw [e1]; rfl
  have hall : ∀ s : Int, (s = 2 ∨ s = 3) → ∀ q, q ∈ K → (q.x.st == s) = false := by
    intro s hs q hq
    rw [beq_eq_false_iff_ne]
    rcases hst q hq with ⟨e, _⟩ | ⟨_, _, e⟩ <;> rw [e] <;> omega
  unfold dcK
  rw [idx_no _ _ (hall 3 (.inr rfl)), if_neg (by omega)]
  split
  · left; rfl
  rename_i hKm
  right
  have hp2 : pk (fun q => q.x.st == 2) K = none := pk_no0 none (hall 2 (.inl rfl))
  rw [hp2]
  simp only
  -- how many witnesses
  have hA : ((K.filter fun q => !wit q).map (·.f) ++ t.who).length ≤ x.N := by
    refine nodup_le hn7 ?_ ?_
    · rw [List.nodup_append]
      refine ⟨?_, h.nd, ?_⟩
      · exact hnd.sublist (List.filter_sublist.map _)
      · intro a ha b hb
        rintro rfl
        obtain ⟨q, hq, rfl⟩ := List.mem_map.1 ha
        obtain ⟨hq1, hq2⟩ := List.mem_filter.1 hq
        rcases hst q hq1 with ⟨_, e⟩ | ⟨e, _⟩
        · exact e hb
        · rw [e] at hq2; simp at hq2
    · intro r hr
      rcases List.mem_append.1 hr with hr | hr
      · obtain ⟨q, hq, rfl⟩ := List.mem_map.1 hr
        obtain ⟨r', hr', _, rfl⟩ := hmem q (List.mem_filter.1 hq).1
        exact hr'
      · exact h.who r hr
  have hB : (K.map (·.f) ++ [(x.L : Int)]).length ≤ x.N := by
    refine nodup_le hn7 ?_ ?_
    · rw [List.nodup_append]
      refine ⟨hnd, by simp, ?_⟩
      intro a ha b hb
      simp at hb; subst hb
      rintro rfl
      obtain ⟨q, hq, he⟩ := List.mem_map.1 ha
      obtain ⟨r', hr', hne, rfl⟩ := hmem q hq
      exact hne he
    · intro r hr
      rcases List.mem_append.1 hr with hr | hr
      · obtain ⟨q, hq, rfl⟩ := List.mem_map.1 hr
        obtain ⟨r', hr', _, rfl⟩ := hmem q hq
        exact hr'
      · simp at hr; subst hr; omega
  have hF := filter_two wit K
  simp only [List.length_append, List.length_map, List.length_cons, List.length_nil] at hA hB
  have hw : maj x.N - 1 ≤ ((K.filter wit).length : Int) ∧ 1 ≤ (K.filter wit).length := by
    rw [hfast] at c3
    rw [hmaj] at c3 hKm ⊢
    unfold mx2 at c3
    split at c3 <;> omega
  have hsil : (K.any fun q => q.f == (x.L : Int)) = false := by
    rw [List.any_eq_false]
    intro q hq
    obtain ⟨r', hr', hne, rfl⟩ := hmem q hq
    simp only [beq_iff_eq]
    exact hne
  have hwt : wt x.N x.L K = (K.filter wit)[0]? := by
    unfold wt
    rw [hsil, if_neg]
    rintro (e | e | e)
    · omega
    · omega
    · simp at e
  have h0 : (K.filter wit)[0]? = some ((K.filter wit)[0]'(by omega)) := List.getElem?_eq_getElem _
  rw [hwt, h0]
  simp only
  have hm0 : (K.filter wit)[0]'(by omega) ∈ K.filter wit := List.getElem_mem _
  generalize (K.filter wit)[0]'(by omega) = q0 at hm0
  obtain ⟨m1, m2⟩ := List.mem_filter.1 hm0
  rcases hst q0 m1 with ⟨e, _⟩ | ⟨_, e, _⟩
  · simp [wit, e] at m2
  · exact e
end

theorem c18 (N L k : Int) (h : ByteArray) (c : List Int) (s : Int) (d asked : List Int) (loc : List At2) (later : List Int) (lead : Bool) (hd : d.length ≤ 4611686018427387903) (hc : c.length ≤ 140737488351232) (ha : asked.length * 8 ≤ 140737488351232) (hlo : ∀ q, q ∈ loc → q.2.length * 8 ≤ 140737488351232) (hla : later.length ≤ 1000000000) :
    Pure Try.prog 18 [.agg (runL N L k h c s d asked loc later lead)] (rBool true) := by
  by_cases hg : 1 ≤ N ∧ N ≤ 7 ∧ 0 ≤ L ∧ L < N ∧ attOK s d = true ∧ (d.length : Int) = N ∧ kOK k = true
  case neg =>
    have k79 := c79 N L k h c s d asked loc later lead hd hg
    refine pure_of_body Try.func18 rfl (by simp [Try.f18]) ?_; rw [Try.ntmps18, Try.results18]; intro w0 G0
    ((repeat' (first | refine thenL_n ?_ | refine thenL_r ?_ | refine thenL_x ?_ | refine blockL_n ?_ | refine blockL_r ?_ | refine blockL_x ?_ | refine blockL_y rfl ?_ | refine awp_seq ?_ | refine awp_block ?_ | refine awp_ret ?_ | refine awp_exit ?_ | refine awp_skip ?_ | exact absurd hcond (by decide) | (first | (refine awp_txt ?_; refine runs_to [] (by simp only [go_sem]; rfl) ?_) | (refine awp_draw mixed ?_; refine runs_to [] (by simp only [go_sem]; rfl) ?_)) | refine runD_nil ⟨by kernel_rfl, ?_⟩ | refine runD_nil ?_ | (refine runD_call (k79) cb79 (by rfl) (by simp only [go_sem]; rfl) (by ((repeat' (first | exact All2.nil | refine All2.cons ?_ ?_ | exact SubV.one (SubT.same _) | exact SubV.one (SubT.nil _) | refine SubV.agg ?_ | exact SubT.same _ | exact SubT.nil _)); first | done | fail)) ?_; refine runs_to [] (by simp only [go_sem]; rfl) ?_) | (refine runD_call (c72) cb72 (by rfl) (by simp only [go_sem]; rfl) (by ((repeat' (first | exact All2.nil | refine All2.cons ?_ ?_ | exact SubV.one (SubT.same _) | exact SubV.one (SubT.nil _) | refine SubV.agg ?_ | exact SubT.same _ | exact SubT.nil _)); first | done | fail)) ?_; refine runs_to [] (by simp only [go_sem]; rfl) ?_) | (refine awp_cond (b := _) (by simp only [go_sem, evB]; rfl) (fun hcond => ?_) (fun hcond => ?_)))); all_goals (refine leaves_ok (by first | exact Or.inl rfl | exact Or.inr rfl) (by simp only [go_sem, resAll, resL, packL, vecsOf, freezeAll, freezeL]; rfl) ?_; (first | refine SubR.v ?_ | refine SubR.tup ?_); ((repeat' (first | exact All2.nil | refine All2.cons ?_ ?_ | exact SubV.one (SubT.same _) | exact SubV.one (SubT.nil _) | refine SubV.agg ?_ | exact SubT.same _ | exact SubT.nil _)); first | done | fail)))
  obtain ⟨g1, g2, g3, g4, g5, g6, g7⟩ := hg
  obtain ⟨x, hxe⟩ : ∃ x : RN, x = ⟨N.toNat, L.toNat, k, h, c, s, d, asked, loc, later, lead⟩ := ⟨_, rfl⟩
  have hx : x.ok := by
    subst hxe
    exact ⟨by simp only; omega, by simp only; omega, by simp only; omega, g5, by simp only; omega, g7, hc, ha, hlo⟩
  have hxN : (x.N : Int) = N := by subst hxe; simp only; omega
  have hxL : (x.L : Int) = L := by subst hxe; simp only; omega
  obtain ⟨rfl, rfl, rfl, rfl, rfl, rfl, rfl, rfl, rfl⟩ : k = x.k ∧ h = x.h ∧ c = x.c ∧ s = x.s ∧ d = x.d ∧ asked = x.asked ∧ loc = x.loc ∧ later = x.later ∧ lead = x.lead := by subst hxe; exact ⟨rfl, rfl, rfl, rfl, rfl, rfl, rfl, rfl, rfl⟩
  clear hxe
  subst hxN
  subst hxL
  have kw79 := s79 x hx
  have hP := PI_all hx x.asked.length
  have hkeep := fun hh l => keeps hx hP hh l
  generalize plS x x.asked.length = a at kw79 hP hkeep
  obtain ⟨ls, t⟩ := a
  simp only at kw79 hP hkeep
  by_cases hk1 : (chS t).1 = 1
  case neg =>
    have hk1' : ((chS t).1 != 1) = true := by simpa using hk1
    generalize chS t = ch at kw79 hk1'
    refine pure_of_body Try.func18 rfl (by simp [Try.f18]) ?_; rw [Try.ntmps18, Try.results18]; intro w0 G0
    ((repeat' (first | refine thenL_n ?_ | refine thenL_r ?_ | refine thenL_x ?_ | refine blockL_n ?_ | refine blockL_r ?_ | refine blockL_x ?_ | refine blockL_y rfl ?_ | refine awp_seq ?_ | refine awp_block ?_ | refine awp_ret ?_ | refine awp_exit ?_ | refine awp_skip ?_ | exact absurd hcond (by decide) | (first | (refine awp_txt ?_; refine runs_to [] (by simp only [go_sem, hk1']; rfl) ?_) | (refine awp_draw mixed ?_; refine runs_to [] (by simp only [go_sem, hk1']; rfl) ?_)) | refine runD_nil ⟨by kernel_rfl, ?_⟩ | refine runD_nil ?_ | (refine runD_does [] [50] (kw79) cb79 (by rfl) (.inl (by simp only [go_sem, hk1']; rfl)) (by simp only [go_sem, ren, dels, adds, rn, At.rn, V1.rn, SV.rn, Cont.rn, Loc.rn, news, vals2, keys2, namesB, locKeys, injOn, noSlots, List.all, List.any, hk1']; rfl) (by first | kernel_rfl | rfl) (by simp only [go_sem, ren, dels, adds, rn, At.rn, V1.rn, SV.rn, Cont.rn, Loc.rn, news, vals2, keys2, namesB, locKeys, injOn, noSlots, List.all, List.any, hk1']; ((repeat' (first | exact All2.nil | refine All2.cons ?_ ?_ | exact SubW.one (SubA.same _) | exact SubW.one (SubA.nil _) | exact SubW.one (SubA.ptr _) | refine SubW.agg ?_ | exact SubA.same _ | exact SubA.nil _ | exact SubA.ptr _)); first | done | fail)) (by simp only [go_sem, ren, dels, adds, rn, At.rn, V1.rn, SV.rn, Cont.rn, Loc.rn, news, vals2, keys2, namesB, locKeys, injOn, noSlots, List.all, List.any, hk1']; (repeat' (first | exact trivial | refine And.intro rfl ?_)); first | done | fail) (by simp only [go_sem, ren, dels, adds, rn, At.rn, V1.rn, SV.rn, Cont.rn, Loc.rn, news, vals2, keys2, namesB, locKeys, injOn, noSlots, List.all, List.any, hk1']; (repeat' (first | exact trivial | refine And.intro rfl ?_)); first | done | fail) ?_; simp only [go_sem, ren, dels, adds, rn, At.rn, V1.rn, SV.rn, Cont.rn, Loc.rn, news, vals2, keys2, namesB, locKeys, injOn, noSlots, List.all, List.any, hk1']; refine runs_to [] (by simp only [go_sem, hk1']; rfl) ?_) | (refine runD_call (c72) cb72 (by rfl) (by simp only [go_sem, hk1']; rfl) (by ((repeat' (first | exact All2.nil | refine All2.cons ?_ ?_ | exact SubV.one (SubT.same _) | exact SubV.one (SubT.nil _) | refine SubV.agg ?_ | exact SubT.same _ | exact SubT.nil _)); first | done | fail)) ?_; refine runs_to [] (by simp only [go_sem, hk1']; rfl) ?_) | (refine awp_cond (b := _) (by simp only [go_sem, evB, hk1']; rfl) (fun hcond => ?_) (fun hcond => ?_)))); all_goals (refine leaves_ok (by first | exact Or.inl rfl | exact Or.inr rfl) (by simp only [go_sem, resAll, resL, packL, vecsOf, freezeAll, freezeL, hk1']; rfl) ?_; (first | refine SubR.v ?_ | refine SubR.tup ?_); ((repeat' (first | exact All2.nil | refine All2.cons ?_ ?_ | exact SubV.one (SubT.same _) | exact SubV.one (SubT.nil _) | refine SubV.agg ?_ | exact SubT.same _ | exact SubT.nil _)); first | done | fail)))
  have hce := (hkeep hk1 []).1
  have hdc := fun l => (hkeep hk1 l).2
  rw [hce] at kw79
  have hlen := hP.len
  have hlatok := fun l => lat_ok hx hP (l := l)
  have hx7 := hx.n7
  refine pure_of_body Try.func18 rfl (by simp [Try.f18]) ?_; rw [Try.ntmps18, Try.results18]; intro w0 G0
  (repeat' (first | refine thenL_n ?_ | refine thenL_r ?_ | refine thenL_x ?_ | refine blockL_n ?_ | refine blockL_r ?_ | refine blockL_x ?_ | refine blockL_y rfl ?_ | refine awp_seq ?_ | refine awp_block ?_ | refine awp_ret ?_ | refine awp_exit ?_ | refine awp_skip ?_ | exact absurd hcond (by decide) | ((fail_if_success (refine isReg 5 ?_)); first | (refine awp_txt ?_; refine runs_to [] (by simp only [go_sem]; rfl) ?_) | (refine awp_draw mixed ?_; refine runs_to [] (by simp only [go_sem]; rfl) ?_)) | refine runD_nil ⟨by kernel_rfl, ?_⟩ | refine runD_nil ?_ | (refine runD_does [] [50] (kw79) cb79 (by rfl) (.inl (by simp only [go_sem]; rfl)) (by simp only [go_sem, ren, dels, adds, rn, At.rn, V1.rn, SV.rn, Cont.rn, Loc.rn, news, vals2, keys2, namesB, locKeys, injOn, noSlots, List.all, List.any]; rfl) (by first | kernel_rfl | rfl) (by simp only [go_sem, ren, dels, adds, rn, At.rn, V1.rn, SV.rn, Cont.rn, Loc.rn, news, vals2, keys2, namesB, locKeys, injOn, noSlots, List.all, List.any]; ((repeat' (first | exact All2.nil | refine All2.cons ?_ ?_ | exact SubW.one (SubA.same _) | exact SubW.one (SubA.nil _) | exact SubW.one (SubA.ptr _) | refine SubW.agg ?_ | exact SubA.same _ | exact SubA.nil _ | exact SubA.ptr _)); first | done | fail)) (by simp only [go_sem, ren, dels, adds, rn, At.rn, V1.rn, SV.rn, Cont.rn, Loc.rn, news, vals2, keys2, namesB, locKeys, injOn, noSlots, List.all, List.any]; (repeat' (first | exact trivial | refine And.intro rfl ?_)); first | done | fail) (by simp only [go_sem, ren, dels, adds, rn, At.rn, V1.rn, SV.rn, Cont.rn, Loc.rn, news, vals2, keys2, namesB, locKeys, injOn, noSlots, List.all, List.any]; (repeat' (first | exact trivial | refine And.intro rfl ?_)); first | done | fail) ?_; simp only [go_sem, ren, dels, adds, rn, At.rn, V1.rn, SV.rn, Cont.rn, Loc.rn, news, vals2, keys2, namesB, locKeys, injOn, noSlots, List.all, List.any]; refine runs_to [] (by simp only [go_sem]; rfl) ?_) | (refine awp_cond (b := _) (by simp only [go_sem, evB]; rfl) (fun hcond => ?_) (fun hcond => ?_))))
  refine awp_imp (Imp.takeE 14 40 (by simp only [go_sem, fixL, Cont.fix, SV.fix, V1.fix, At.fix, cellsT, renL, Loc.ren, Cont.ren, SV.ren, V1.ren, At.ren, freezeL]) (by simp only [go_sem, fixL, Cont.fix, SV.fix, V1.fix, At.fix, cellsT, renL, Loc.ren, Cont.ren, SV.ren, V1.ren, At.ren, freezeL]; rfl) (by decide) (by simp only [go_sem, fixL, Cont.fix, SV.fix, V1.fix, At.fix, cellsT, renL, Loc.ren, Cont.ren, SV.ren, V1.ren, At.ren, freezeL]; rfl)) ?_
  (repeat' (first | refine thenL_n ?_ | refine thenL_r ?_ | refine thenL_x ?_ | refine blockL_n ?_ | refine blockL_r ?_ | refine blockL_x ?_ | refine blockL_y rfl ?_ | refine awp_seq ?_ | refine awp_block ?_ | refine awp_ret ?_ | refine awp_exit ?_ | refine awp_skip ?_ | exact absurd hcond (by decide) | (first | (refine awp_txt ?_; refine runs_to [] (by simp only [go_sem]; rfl) ?_) | (refine awp_draw mixed ?_; refine runs_to [] (by simp only [go_sem]; rfl) ?_)) | refine runD_nil ⟨by kernel_rfl, ?_⟩ | refine runD_nil ?_ | (refine awp_cond (b := _) (by simp only [go_sem, evB]; rfl) (fun hcond => ?_) (fun hcond => ?_))))
  refine awp_loop (fun i : Nat => [(.slot 1, sP 1), (.cell 1 0, .c (lI x.N)), (.cell 1 1, .c (lI x.L)), (.cell 1 2, .c (lI x.k)), (.cell 1 3, .c (.t (.lit (.string x.h)))), (.cell 1 4, .c (.t (vBy x.c))), (.slot 3, sR 40), (.vec 40, .r 13 133 (ls.map ivL)), (.slot 4, sP 4), (.cell 4 0, .c (lI 1)), (.cell 4 1, .c (lI x.s)), (.cell 4 2, .c (.t (vInts x.d))), (.slot 6, sR 41), (.vec 41, .r 14 135 ((lat x ls (x.later.take i)).map rpL)), (.slot 27, sT (vInts x.later)), (.slot 28, sI x.later.length), (.slot 29, sI i)]) (fun i => i ≤ x.later.length) (fun i => x.later.length - i) 0 (Nat.zero_le _) (Imp.trans (Imp.adopt 6 41 14 135 (by simp only [go_sem]) (by decide) (by simp only [go_sem])) (by refine Imp.of_in ?_; simp only [go_sem, lat, List.take_zero, List.filter_nil, List.map_nil, Int.natCast_zero])) ?_
  intro i hi
  by_cases hlt : (i : Int) < x.later.length
  · have hil : i < x.later.length := by omega
    have hxi : x.later[i]? = some x.later[i] := List.getElem?_eq_getElem hil
    have hts : x.later.take (i + 1) = x.later.take i ++ [x.later[i]] := List.take_succ_eq_append_getElem hil
    have hw := up i (by omega)
    have hll : (lat x ls (x.later.take i)).length ≤ i := by
      unfold lat
      rw [List.length_map]
      exact Nat.le_trans (List.length_filter_le _ _) (by rw [List.length_take]; omega)
    generalize x.later[i] = r at hxi hts
    have hno : latB x r = false → lat x ls (x.later.take (i + 1)) = lat x ls (x.later.take i) := by
      intro e; unfold lat; rw [hts, List.filter_append]; simp [e]
    have hyes : latB x r = true → lat x ls (x.later.take (i + 1)) = lat x ls (x.later.take i) ++ [mkL x ls r] := by
      intro e; unfold lat; rw [hts, List.filter_append]; simp [e]
    by_cases q1 : r < 0
    · have hn := hno (by simp [latB]; omega)
      (repeat' (first | refine thenL_n ?_ | refine thenL_r ?_ | refine thenL_x ?_ | refine blockL_n ?_ | refine blockL_r ?_ | refine blockL_x ?_ | refine blockL_y rfl ?_ | refine awp_seq ?_ | refine awp_block ?_ | refine awp_ret ?_ | refine awp_exit ?_ | refine awp_skip ?_ | exact absurd hcond (by decide) | (first | (refine awp_txt ?_; refine runs_to [] (by simp only [go_sem, hlt, hil, hxi, hw, q1]; rfl) ?_) | (refine awp_draw mixed ?_; refine runs_to [] (by simp only [go_sem, hlt, hil, hxi, hw, q1]; rfl) ?_)) | refine runD_nil ⟨by kernel_rfl, ?_⟩ | refine runD_nil ?_ | (refine awp_cond (b := _) (by simp only [go_sem, evB, hlt, hil, hxi, hw, q1]; rfl) (fun hcond => ?_) (fun hcond => ?_))))
      exact ⟨i + 1, by omega, by omega, (by refine Imp.of_in ?_; simp only [go_sem, hn])⟩
    by_cases q2 : (x.N : Int) ≤ r
    · have hn := hno (by simp [latB]; omega)
      (repeat' (first | refine thenL_n ?_ | refine thenL_r ?_ | refine thenL_x ?_ | refine blockL_n ?_ | refine blockL_r ?_ | refine blockL_x ?_ | refine blockL_y rfl ?_ | refine awp_seq ?_ | refine awp_block ?_ | refine awp_ret ?_ | refine awp_exit ?_ | refine awp_skip ?_ | exact absurd hcond (by decide) | (first | (refine awp_txt ?_; refine runs_to [] (by simp only [go_sem, hlt, hil, hxi, hw, q1, q2]; rfl) ?_) | (refine awp_draw mixed ?_; refine runs_to [] (by simp only [go_sem, hlt, hil, hxi, hw, q1, q2]; rfl) ?_)) | refine runD_nil ⟨by kernel_rfl, ?_⟩ | refine runD_nil ?_ | (refine awp_cond (b := _) (by simp only [go_sem, evB, hlt, hil, hxi, hw, q1, q2]; rfl) (fun hcond => ?_) (fun hcond => ?_))))
      exact ⟨i + 1, by omega, by omega, (by refine Imp.of_in ?_; simp only [go_sem, hn])⟩
    by_cases q3 : r = (x.L : Int)
    · have q3' : (r == (x.L : Int)) = true := by simp [q3]
      have hn := hno (by simp [latB]; omega)
      (repeat' (first | refine thenL_n ?_ | refine thenL_r ?_ | refine thenL_x ?_ | refine blockL_n ?_ | refine blockL_r ?_ | refine blockL_x ?_ | refine blockL_y rfl ?_ | refine awp_seq ?_ | refine awp_block ?_ | refine awp_ret ?_ | refine awp_exit ?_ | refine awp_skip ?_ | exact absurd hcond (by decide) | (first | (refine awp_txt ?_; refine runs_to [] (by simp only [go_sem, hlt, hil, hxi, hw, q1, q2, q3']; rfl) ?_) | (refine awp_draw mixed ?_; refine runs_to [] (by simp only [go_sem, hlt, hil, hxi, hw, q1, q2, q3']; rfl) ?_)) | refine runD_nil ⟨by kernel_rfl, ?_⟩ | refine runD_nil ?_ | (refine awp_cond (b := _) (by simp only [go_sem, evB, hlt, hil, hxi, hw, q1, q2, q3']; rfl) (fun hcond => ?_) (fun hcond => ?_))))
      exact ⟨i + 1, by omega, by omega, (by refine Imp.of_in ?_; simp only [go_sem, hn])⟩
    have q3' : (r == (x.L : Int)) = false := by simp [q3]
    have hn := hyes (by simp [latB]; omega)
    obtain ⟨n, rfl⟩ := Int.eq_ofNat_of_zero_le (show 0 ≤ r by omega)
    have hnl : n < ls.length := by omega
    have hnlN : n < x.N := by omega
    have hz : ls[n]? = some ls[n] := List.getElem?_eq_getElem hnl
    have hzo := PI_ok hx hP hz
    have hmk : mkL x ls (n : Int) = ⟨n, (prP ls[n] 1 n).1⟩ := by unfold mkL; rw [Int.toNat_natCast, hz, Option.getD_some]
    rw [hmk] at hn
    generalize ls[n] = z at hz hzo hn
    have kw80 : Pure Try.prog 80 [iv z, bal 1 n] (.tup [iv (prP z 1 n).1, vlit (.bool (prP z 1 n).2)]) := c80 z hzo 1 n
    generalize prP z 1 (n : Int) = y at kw80 hn
    obtain ⟨y, b⟩ := y
    simp only at kw80 hn
    have hn00 : (0 : Int) ≤ (n : Int) := by omega
    generalize lat x ls (x.later.take i) = w at hn hll
    have hc1 : w.length + 1 ≤ 140737488355328 := by omega
    have hc2 : (w.length + 1) * 152 ≤ 140737488355328 := by omega
    have hmap : List.map rpL (w ++ [⟨n, y⟩]) = List.map rpL w ++ [rpL ⟨n, y⟩] := by simp
    simp only [rpL, vBy, vInts] at hmap
    (repeat' (first | refine thenL_n ?_ | refine thenL_r ?_ | refine thenL_x ?_ | refine blockL_n ?_ | refine blockL_r ?_ | refine blockL_x ?_ | refine blockL_y rfl ?_ | refine awp_seq ?_ | refine awp_block ?_ | refine awp_ret ?_ | refine awp_exit ?_ | refine awp_skip ?_ | exact absurd hcond (by decide) | (first | (refine awp_txt ?_; refine runs_to [] (by simp only [go_sem, hlt, hil, hxi, hw, q1, q2, q3', hz, hlen, hnl, hnlN, hn00, hc1, hc2]; rfl) ?_) | (refine awp_draw mixed ?_; refine runs_to [] (by simp only [go_sem, hlt, hil, hxi, hw, q1, q2, q3', hz, hlen, hnl, hnlN, hn00, hc1, hc2]; rfl) ?_)) | refine runD_nil ⟨by kernel_rfl, ?_⟩ | refine runD_nil ?_ | (refine runD_call (kw80) cb80 (by rfl) (by simp only [go_sem, hlt, hil, hxi, hw, q1, q2, q3', hz, hlen, hnl, hnlN, hn00, hc1, hc2]; rfl) (by ((repeat' (first | exact All2.nil | refine All2.cons ?_ ?_ | exact SubV.one (SubT.same _) | exact SubV.one (SubT.nil _) | refine SubV.agg ?_ | exact SubT.same _ | exact SubT.nil _)); first | done | fail)) ?_; refine runs_to [] (by simp only [go_sem, hlt, hil, hxi, hw, q1, q2, q3', hz, hlen, hnl, hnlN, hn00, hc1, hc2]; rfl) ?_) | (refine awp_cond (b := _) (by simp only [go_sem, evB, hlt, hil, hxi, hw, q1, q2, q3', hz, hlen, hnl, hnlN, hn00, hc1, hc2]; rfl) (fun hcond => ?_) (fun hcond => ?_))))
    exact ⟨i + 1, by omega, by omega, (by refine Imp.back 62 41 (by simp only [go_sem, renL, Loc.ren, Cont.ren, SV.ren, V1.ren, At.ren,  hn, hmap]) (by simp only [go_sem, renL, Loc.ren, Cont.ren, SV.ren, V1.ren, At.ren,  hn, hmap]) (by simp only [go_sem, renL, Loc.ren, Cont.ren, SV.ren, V1.ren, At.ren,  hn, hmap]) (by decide) (by decide) ?_; refine Imp.of_in ?_; simp only [go_sem, renL, Loc.ren, Cont.ren, SV.ren, V1.ren, At.ren,  hn, hmap])⟩
  · have hta : x.later.take i = x.later := by rw [show i = x.later.length by omega, List.take_length]
    rw [hta]
    have hll : (lat x ls x.later).length ≤ x.later.length := by
      unfold lat
      rw [List.length_map]
      exact List.length_filter_le _ _
    have k68 := c68 x.N x.L (lat x ls x.later) (by omega) (hlatok x.later)
    have hdd := hdc x.later
    refine awp_imp (Imp.freezeE 41 (by simp only [go_sem, fixL, Cont.fix, SV.fix, V1.fix, At.fix, cellsT, renL, Loc.ren, Cont.ren, SV.ren, V1.ren, At.ren, freezeL]; rfl) (by simp only [go_sem, fixL, Cont.fix, SV.fix, V1.fix, At.fix, cellsT, renL, Loc.ren, Cont.ren, SV.ren, V1.ren, At.ren, freezeL]; rfl)) ?_
    have kw55 := c55 x.s x.s x.d x.d hd
    simp only [beq_self_eq_true, decide_true, Bool.and_self] at kw55
    rcases hdd with e | e
    · rw [e] at k68
      generalize lat x ls x.later = w at k68 ⊢
      ((repeat' (first | refine thenL_n ?_ | refine thenL_r ?_ | refine thenL_x ?_ | refine blockL_n ?_ | refine blockL_r ?_ | refine blockL_x ?_ | refine blockL_y rfl ?_ | refine awp_seq ?_ | refine awp_block ?_ | refine awp_ret ?_ | refine awp_exit ?_ | refine awp_skip ?_ | exact absurd hcond (by decide) | (first | (refine awp_txt ?_; refine runs_to [] (by simp only [go_sem, hlt, pl0]; rfl) ?_) | (refine awp_draw mixed ?_; refine runs_to [] (by simp only [go_sem, hlt, pl0]; rfl) ?_)) | refine runD_nil ⟨by kernel_rfl, ?_⟩ | refine runD_nil ?_ | (refine runD_call (k68) cb68 (by rfl) (by simp only [go_sem, hlt, pl0]; rfl) (by ((repeat' (first | exact All2.nil | refine All2.cons ?_ ?_ | exact SubV.one (SubT.same _) | exact SubV.one (SubT.nil _) | refine SubV.agg ?_ | exact SubT.same _ | exact SubT.nil _)); first | done | fail)) ?_; refine runs_to [] (by simp only [go_sem, hlt, pl0]; rfl) ?_) | (refine runD_call (c72) cb72 (by rfl) (by simp only [go_sem, hlt, pl0]; rfl) (by ((repeat' (first | exact All2.nil | refine All2.cons ?_ ?_ | exact SubV.one (SubT.same _) | exact SubV.one (SubT.nil _) | refine SubV.agg ?_ | exact SubT.same _ | exact SubT.nil _)); first | done | fail)) ?_; refine runs_to [] (by simp only [go_sem, hlt, pl0]; rfl) ?_) | (refine awp_cond (b := _) (by simp only [go_sem, evB, hlt, pl0]; rfl) (fun hcond => ?_) (fun hcond => ?_)))); all_goals (refine leaves_ok (by first | exact Or.inl rfl | exact Or.inr rfl) (by simp only [go_sem, resAll, resL, packL, vecsOf, freezeAll, freezeL, hlt, pl0]; rfl) ?_; (first | refine SubR.v ?_ | refine SubR.tup ?_); ((repeat' (first | exact All2.nil | refine All2.cons ?_ ?_ | exact SubV.one (SubT.same _) | exact SubV.one (SubT.nil _) | refine SubV.agg ?_ | exact SubT.same _ | exact SubT.nil _)); first | done | fail)))
    · rw [e] at k68
      generalize lat x ls x.later = w at k68 ⊢
      ((repeat' (first | refine thenL_n ?_ | refine thenL_r ?_ | refine thenL_x ?_ | refine blockL_n ?_ | refine blockL_r ?_ | refine blockL_x ?_ | refine blockL_y rfl ?_ | refine awp_seq ?_ | refine awp_block ?_ | refine awp_ret ?_ | refine awp_exit ?_ | refine awp_skip ?_ | exact absurd hcond (by decide) | (first | (refine awp_txt ?_; refine runs_to [] (by simp only [go_sem, hlt]; rfl) ?_) | (refine awp_draw mixed ?_; refine runs_to [] (by simp only [go_sem, hlt]; rfl) ?_)) | refine runD_nil ⟨by kernel_rfl, ?_⟩ | refine runD_nil ?_ | (refine runD_call (k68) cb68 (by rfl) (by simp only [go_sem, hlt]; rfl) (by ((repeat' (first | exact All2.nil | refine All2.cons ?_ ?_ | exact SubV.one (SubT.same _) | exact SubV.one (SubT.nil _) | refine SubV.agg ?_ | exact SubT.same _ | exact SubT.nil _)); first | done | fail)) ?_; refine runs_to [] (by simp only [go_sem, hlt]; rfl) ?_) | (refine runD_call (c70 _ _ _) cb70 (by rfl) (by simp only [go_sem, hlt]; rfl) (by ((repeat' (first | exact All2.nil | refine All2.cons ?_ ?_ | exact SubV.one (SubT.same _) | exact SubV.one (SubT.nil _) | refine SubV.agg ?_ | exact SubT.same _ | exact SubT.nil _)); first | done | fail)) ?_; refine runs_to [] (by simp only [go_sem, hlt]; rfl) ?_) | (refine runD_call (c71 _ _) cb71 (by rfl) (by simp only [go_sem, hlt]; rfl) (by ((repeat' (first | exact All2.nil | refine All2.cons ?_ ?_ | exact SubV.one (SubT.same _) | exact SubV.one (SubT.nil _) | refine SubV.agg ?_ | exact SubT.same _ | exact SubT.nil _)); first | done | fail)) ?_; refine runs_to [] (by simp only [go_sem, hlt]; rfl) ?_) | (refine runD_call (kw55) cb55 (by rfl) (by simp only [go_sem, hlt]; rfl) (by ((repeat' (first | exact All2.nil | refine All2.cons ?_ ?_ | exact SubV.one (SubT.same _) | exact SubV.one (SubT.nil _) | refine SubV.agg ?_ | exact SubT.same _ | exact SubT.nil _)); first | done | fail)) ?_; refine runs_to [] (by simp only [go_sem, hlt]; rfl) ?_) | (refine runD_call (c72) cb72 (by rfl) (by simp only [go_sem, hlt]; rfl) (by ((repeat' (first | exact All2.nil | refine All2.cons ?_ ?_ | exact SubV.one (SubT.same _) | exact SubV.one (SubT.nil _) | refine SubV.agg ?_ | exact SubT.same _ | exact SubT.nil _)); first | done | fail)) ?_; refine runs_to [] (by simp only [go_sem, hlt]; rfl) ?_) | (refine awp_cond (b := _) (by simp only [go_sem, evB, hlt]; rfl) (fun hcond => ?_) (fun hcond => ?_)))); all_goals (refine leaves_ok (by first | exact Or.inl rfl | exact Or.inr rfl) (by simp only [go_sem, resAll, resL, packL, vecsOf, freezeAll, freezeL, hlt]; rfl) ?_; (first | refine SubR.v ?_ | refine SubR.tup ?_); ((repeat' (first | exact All2.nil | refine All2.cons ?_ ?_ | exact SubV.one (SubT.same _) | exact SubV.one (SubT.nil _) | refine SubV.agg ?_ | exact SubT.same _ | exact SubT.nil _)); first | done | fail)))
end Go.Proofs.Ytbohgpdpglfepaa
set_option maxHeartbeats 4000000
set_option maxRecDepth 10000
set_option linter.unusedVariables false
set_option linter.unusedSimpArgs false
namespace Go.Proofs.Ytbohgpdpglfepaa
open Go.AM Go.RowKit
attribute [local irreducible] AWP thenL blockL AM.Leaves LeavesO RunD
attribute [local go_sem] runs stepR actF inF frzA frzW lastW act act1 actPick actNil actBin
  actUn actConv actExtract actFieldAddr actField actAlloc keysOf actBox actLoad treesOf actStore actIndex
  actLen actMx srcL actAppend actMake actBuild actBuildSlice boundL actSlice actCall actEqS isStruct
  isSlice actText actCopy litsOf kindsOK fieldsPlain eqAll eqop dstB dstN boolS litB
  litV sv binv unv lits takeC cellsR trees cellsW mxv repl parts
  fillAt fillRows V1.cs mkV ev evr AM.look put del applyL delD wrD
  undefS SV.to V1.to At.to keysL notIn freshKey PV.up PR.up entry entryV evp
  isAt actPtrNil capsL actFunc sameV sameVs pureCtx doc mkVar AM.Loc.key Cont.keys SV.keys
  V1.keys At.keys Cont.sub SV.sub V1.sub At.sub guardR argsL callR Nat.blt_eq Nat.blt Nat.ble
  Nat.beq_eq_true_eq beq_self_eq_true Array.toList List.map List.append_eq List.nil_append List.cons_append List.append_nil List.append_assoc Bool.and_eq_true decide_true decide_false
  decide_eq_true_eq Bool.not_true Bool.not_false reduceCtorEq if_true if_false ite_true ite_false reduceIte AM.Loc.slot.injEq AM.Loc.cell.injEq AM.Loc.vec.injEq
  List.getElem?_cons_zero List.getElem?_cons_succ List.getElem?_nil Option.map_some Option.map_none Option.toList List.flatMap_nil List.flatMap_cons Bool.and_true Bool.true_and Bool.and_false Bool.false_and
  Bool.true_eq_false Bool.false_eq_true Nat.reduceBEq Nat.reduceEqDiff bool_beq_tt bool_beq_ff bool_beq_tf bool_beq_ft List.length_cons List.length_nil List.drop List.take
  List.drop_zero List.take_zero List.all_cons List.all_nil Value.oneCell' Nat.zero_add Nat.reduceAdd Nat.reduceMul Nat.reduceSub Nat.reduceLT Nat.reduceLeDiff Int.reduceLT
  Int.reduceLE Int.reduceEq Int.reduceBEq Int.reduceBNe Int.reduceAdd Int.reduceSub Int.reduceMul Int.reduceNeg Int.reduceToNat Nat.succ_ne_zero List.replicate and_true
  true_and and_false false_and and_self ge_iff_le gt_iff_lt bne_self_eq_false List.zip_cons_cons List.zip_nil_left List.zip List.zipWith Int.natCast_nonneg
  Int.toNat_natCast List.getElem?_map List.length_map sT sI sB sR sP rV AllIn Int.toNat_zero Int.ofNat_zero
  Int.natCast_zero Nat.le_refl List.mapM_cons List.mapM_nil Option.bind_eq_bind Option.bind_some Option.pure_def List.set_cons_zero List.set_cons_succ List.length_set tt2 tt3
  tt4 tt5 tt9 tt12 tt21 tt22 tt23 tt24 tt25 tt36 tt37 tt43
  tt44 tt51 tt52 tt53 tt59 tt67 tt68 tt69 tt74 tt75 tt76 tt77
  tt78 tt79 tt89 tt92 tt95 tt96 tt97 tt98 tt99 tt102 tt103 tt106
  tt107 tt108 tt114 tt115 tt116 tt117 tt118 tt119 tt120 tt122 tt124 tt125
  tt126 tt127 tt130 tt131 tt132 tt133 tt134 tt135 tt137 tt138 tt139 tt147
  tt148 tt149 tt159 tt164 tt165 tt167 tt168 tt169 tt170 tt171 tt190 tt191
  tt194 tt200 tt208 tt212
attribute [local go_sem] vlit bal rInt rBool vInts pInts vvInts vPairs att vAtts vBy cm iv vvBy lI lB rpL vRp rK plL tK vK ivL runL

/-- An instance that was accepted. -/
def aI (x : RN) (b1 b2 : Int) : IN := ⟨x.L, 1, 2, b1, b2, b1, b2, x.k, x.h, x.c, x.s, x.d, false⟩
def accS (x : RN) (b1 b2 : Int) (ls : List IN) (who : List Int) : Nat → List IN × List Int
  | 0 => (ls.set x.L (aI x b1 b2), [(x.L : Int)])
  | i + 1 => match who[i]? with
    | some r => if r < 0 ∨ (x.N : Int) ≤ r ∨ r = (x.L : Int) then accS x b1 b2 ls who i else ((accS x b1 b2 ls who i).1.set r.toNat (aI x b1 b2), add1 x.N (accS x b1 b2 ls who i).2 r)
    | none => accS x b1 b2 ls who i
structure AI (x : RN) (b1 b2 : Int) (ls : List IN) (W : List Int) : Prop where
  len : ls.length = x.N
  who : ∀ q, q ∈ W → 0 ≤ q ∧ q < x.N
  nd : W.Nodup
  each : ∀ (r : Nat) z, ls[r]? = some z → (z = aI x b1 b2 ∧ (r : Int) ∈ W) ∨ ((z = zI x ∨ ∃ S D m, z = pI x S D m ∧ attOK S D = true ∧ D.length = x.d.length) ∧ (r : Int) ∉ W)

theorem pk_nil {p : RP → Bool} : ∀ {l : List RP} {b : Option RP}, l.foldl (pk1 p) b = none → b = none ∧ ∀ q, q ∈ l → p q = false
  | [], b, h => ⟨h, by simp⟩
  | r :: l, b, h => by
    obtain ⟨h1, h2⟩ := pk_nil (l := l) h
    cases hr : p r with
    | true =>
      cases b with
      | none => rw [pk1_first hr] at h1; simp at h1
      | some z =>
        cases hl : less z.x.v1 z.x.v2 r.x.v1 r.x.v2 with
        | true => rw [pk1_lt hr hl] at h1; simp at h1
        | false => rw [pk1_ge hr hl] at h1; simp at h1
    | false =>
      rw [pk1_no hr] at h1
      refine ⟨h1, fun q hq => ?_⟩
      rcases List.mem_cons.1 hq with rfl | hq
      · exact hr
      · exact h2 q hq
theorem pk_true {p : RP → Bool} : ∀ {l : List RP} {b : Option RP} {q : RP}, l.foldl (pk1 p) b = some q → b = some q ∨ p q = true
  | [], b, q, h => .inl h
  | r :: l, b, q, h => by
    rcases pk_true (l := l) h with h | h
    · cases hr : p r with
      | true =>
        cases b with
        | none => rw [pk1_first hr] at h; injection h with h; subst h; exact .inr hr
        | some z =>
          cases hl : less z.x.v1 z.x.v2 r.x.v1 r.x.v2 with
          | true => rw [pk1_lt hr hl] at h; injection h with h; subst h; exact .inr hr
          | false => rw [pk1_ge hr hl] at h; exact .inl h
      | false => rw [pk1_no hr] at h; exact .inl h
    · exact .inr h

def acP (z : IN) (b1 b2 k : Int) (h : ByteArray) (c : List Int) (s : Int) (d : List Int) : IN × Bool := (if goB z b1 b2 && asK k s d && !(z.st == 3) then acX z b1 b2 k h c s d else z, goB z b1 b2 && asK k s d && !(z.st == 3))
def lat2B (x : RN) (r : Int) : Bool := decide (0 ≤ r) && decide (r < x.N) && (x.lead || decide (r ≠ x.L))
def mk2 (x : RN) (ls : List IN) (r : Int) : RP := ⟨r, (ls[r.toNat]?).getD (zI x)⟩
def lat2 (x : RN) (ls : List IN) (l : List Int) : List RP := (l.filter (lat2B x)).map (mk2 x ls)

section
variable {x : RN} {b1 b2 : Int}

theorem acP_any (hx : x.ok) (hb : balOK b1 b2 = true) (hb0 : b1 ≠ 0) {z : IN} (hz : z = aI x b1 b2 ∨ z = zI x ∨ ∃ S D m, z = pI x S D m ∧ attOK S D = true ∧ D.length = x.d.length) : acP z b1 b2 x.k x.h x.c x.s x.d = (aI x b1 b2, true) := by
  have hb' := hb
  simp only [balOK, Bool.and_eq_true, decide_eq_true_eq] at hb'
  have hl1 : less b1 b2 0 0 = false := by simp [less]; omega
  have hl2 : less b1 b2 0 x.L = false := by simp [less]; omega
  have hk := asKx hx
  rcases hz with rfl | rfl | ⟨S, D, m, rfl, _, _⟩
  · have hg : goB (aI x b1 b2) b1 b2 = true := by unfold goB aI; rw [hb]; simp only; rw [less_irr]; rfl
    unfold acP
    rw [hg, hk]
    simp [aI, acX]
  · have hg : goB (zI x) b1 b2 = true := by unfold goB zI; rw [hb]; simp only; rw [hl1]; rfl
    unfold acP
    rw [hg, hk]
    simp [aI, acX, zI]
  · have hg : goB (pI x S D m) b1 b2 = true := by unfold goB pI; rw [hb]; simp only; rw [hl2]; rfl
    unfold acP
    rw [hg, hk]
    simp [aI, acX, pI]

theorem AI_set {ls : List IN} {W : List Int} (h : AI x b1 b2 ls W) {n : Nat} (hn : n < x.N) : AI x b1 b2 (ls.set n (aI x b1 b2)) (add1 x.N W n) := by
  have hmem : (n : Int) ∈ add1 x.N W n := by
    unfold add1
    split
    · simp
    · rename_i hc
      by_cases hm : (n : Int) ∈ W
      · exact hm
      · exact absurd ⟨by omega, by omega, hm⟩ hc
  have hsub : ∀ q, q ∈ add1 x.N W n → q ∈ W ∨ q = (n : Int) := by
    intro q hq
    unfold add1 at hq
    split at hq
    · simpa using hq
    · exact .inl hq
  have hsup : ∀ q, q ∈ W → q ∈ add1 x.N W n := by
    intro q hq
    unfold add1
    split
    · simp [hq]
    · exact hq
  refine ⟨by simp [h.len], ?_, ?_, ?_⟩
  · intro q hq
    rcases hsub q hq with h1 | h1
    · exact h.who q h1
    · subst h1; omega
  · unfold add1
    split
    · rename_i hc
      rw [List.nodup_append]
      refine ⟨h.nd, by simp, fun a ha b hb => ?_⟩
      simp at hb; subst hb
      rintro rfl; exact hc.2.2 ha
    · exact h.nd
  · intro r z hz
    by_cases hrn : r = n
    · subst hrn
      rw [List.getElem?_set_self (by rw [h.len]; exact hn)] at hz
      injection hz with hz
      exact .inl ⟨hz.symm, hmem⟩
    · rw [List.getElem?_set_ne (by omega)] at hz
      rcases h.each r z hz with ⟨e1, e2⟩ | ⟨e1, e2⟩
      · exact .inl ⟨e1, hsup _ e2⟩
      · refine .inr ⟨e1, fun hm => ?_⟩
        rcases hsub _ hm with h1 | h1
        · exact e2 h1
        · omega
theorem AI_zero (hx : x.ok) {ls : List IN} {t : TY} (h : PI x ls t) (who : List Int) : AI x b1 b2 (accS x b1 b2 ls who 0).1 (accS x b1 b2 ls who 0).2 := by
  have hL := hx.l
  refine ⟨by simp [accS, h.len], ?_, by simp [accS], ?_⟩
  · intro q hq
    simp [accS] at hq; subst hq; omega
  · intro r z hz
    simp only [accS] at hz ⊢
    by_cases hrn : r = x.L
    · subst hrn
      rw [List.getElem?_set_self (by rw [h.len]; exact hL)] at hz
      injection hz with hz
      exact .inl ⟨hz.symm, by simp⟩
    · rw [List.getElem?_set_ne (by omega)] at hz
      right
      refine ⟨?_, by simp; omega⟩
      rcases h.each r z hz with ⟨e1, _⟩ | ⟨S, D, m, e1, e2, e3, _⟩
      · exact .inl e1
      · exact .inr ⟨S, D, m, e1, e2, e3⟩
theorem AI_all (hx : x.ok) {ls : List IN} {t : TY} (h : PI x ls t) (who : List Int) : ∀ i, AI x b1 b2 (accS x b1 b2 ls who i).1 (accS x b1 b2 ls who i).2
  | 0 => AI_zero hx h who
  | i + 1 => by
    have ih := AI_all hx h who i
    unfold accS
    split
    · rename_i r hr
      split
      · exact ih
      · rename_i hc
        obtain ⟨n, rfl⟩ := Int.eq_ofNat_of_zero_le (show 0 ≤ r by omega)
        rw [Int.toNat_natCast]
        exact AI_set ih (by omega)
    · exact ih
theorem AI_ok (hx : x.ok) {ls : List IN} {W : List Int} (h : AI x b1 b2 ls W) {r : Nat} {z : IN} (hz : ls[r]? = some z) : z.ok ∧ (z = aI x b1 b2 ∨ z = zI x ∨ ∃ S D m, z = pI x S D m ∧ attOK S D = true ∧ D.length = x.d.length) := by
  have h1 := hx.cl
  have h2 := hx.n7
  have h3 := hx.dl
  rcases h.each r z hz with ⟨rfl, _⟩ | ⟨rfl | ⟨S, D, m, rfl, e2, e3⟩, _⟩
  · exact ⟨⟨by simp only [aI]; omega, by simp only [aI]; omega⟩, .inl rfl⟩
  · exact ⟨⟨by simp [zI], by simp [zI]⟩, .inr (.inl rfl)⟩
  · exact ⟨⟨by simp only [pI]; omega, by simp only [pI]; omega⟩, .inr (.inr ⟨S, D, m, rfl, e2, e3⟩)⟩

theorem lat2_ok (hx : x.ok) {ls : List IN} {W : List Int} (h : AI x b1 b2 ls W) {l : List Int} : ∀ q, q ∈ lat2 x ls l → q.x.ok := by
  intro q hq
  obtain ⟨r, hr, rfl⟩ := List.mem_map.1 hq
  have hr2 := (List.mem_filter.1 hr).2
  simp only [lat2B, Bool.and_eq_true, decide_eq_true_eq] at hr2
  obtain ⟨n, rfl⟩ := Int.eq_ofNat_of_zero_le hr2.1.1
  have hl := h.len
  have hz : ls[n]? = some (ls[n]'(by omega)) := List.getElem?_eq_getElem _
  unfold mk2
  rw [Int.toNat_natCast, hz, Option.getD_some]
  exact (AI_ok hx h hz).1

theorem accepted (hx : x.ok) {ls : List IN} {W : List Int} (h : AI x b1 b2 ls W) (hen : maj x.N ≤ (W.length : Int)) (l : List Int) : dc x.N x.L (lat2 x ls l) = pl0 ∨ dc x.N x.L (lat2 x ls l) = ⟨2, x.k, x.h, x.c, x.s, x.d⟩ := by
  have hn1 := hx.n1
  have hn7 := hx.n7
  have hL := hx.l
  have hmaj := maj_in (n := (x.N : Int)) ⟨by omega, by omega⟩
  unfold dc
  rw [if_pos (by omega)]
  have hmem : ∀ q, q ∈ kn x.N (lat2 x ls l) → (0 ≤ q.f ∧ q.f < x.N) ∧ ((q.x = aI x b1 b2 ∧ q.f ∈ W) ∨ (q.x.st ≠ 2 ∧ q.x.st ≠ 3 ∧ q.f ∉ W)) := by
    intro q hq
    have := (kn_mem x.N (lat2 x ls l) [] hq).resolve_left (by simp)
    obtain ⟨r, hr, rfl⟩ := List.mem_map.1 this
    have hr2 := (List.mem_filter.1 hr).2
    simp only [lat2B, Bool.and_eq_true, decide_eq_true_eq] at hr2
    obtain ⟨n, rfl⟩ := Int.eq_ofNat_of_zero_le hr2.1.1
    have hl := h.len
    have hz : ls[n]? = some (ls[n]'(by omega)) := List.getElem?_eq_getElem _
    refine ⟨⟨by simp only [mk2]; omega, by simp only [mk2]; omega⟩, ?_⟩
    unfold mk2
    rw [Int.toNat_natCast, hz, Option.getD_some]
    simp only
    rcases h.each n _ hz with ⟨e1, e2⟩ | ⟨e1, e2⟩
    · exact .inl ⟨e1, e2⟩
    · right
      rcases e1 with e1 | ⟨S, D, m, e1, _⟩ <;> rw [e1]
      · exact ⟨by simp [zI], by simp [zI], e2⟩
      · exact ⟨by simp [pI], by simp [pI], e2⟩
  have hnd : ((kn x.N (lat2 x ls l)).map (·.f)).Nodup := kn_nodup _ [] (by simp)
  generalize kn x.N (lat2 x ls l) = K at hmem hnd
  have h3 : ∀ q, q ∈ K → (q.x.st == 3) = false := by
    intro q hq
    rw [beq_eq_false_iff_ne]
    rcases (hmem q hq).2 with ⟨e, _⟩ | ⟨_, e, _⟩
    · rw [e]; simp [aI]
    · exact e
  unfold dcK
  rw [idx_no _ _ h3, if_neg (by omega)]
  split
  · left; rfl
  rename_i hKm
  right
  cases hp : pk (fun q => q.x.st == 2) K with
  | some q =>
    have h1 := (pk_mem _ K none hp).resolve_left (by simp)
    have h2 := (pk_true hp).resolve_left (by simp)
    simp only [beq_iff_eq] at h2
    rcases (hmem q h1).2 with ⟨e, _⟩ | ⟨e, _⟩
    · simp only; rw [e]; rfl
    · exact absurd h2 e
  | none =>
    exfalso
    obtain ⟨_, hall⟩ := pk_nil hp
    have hA : (K.map (·.f) ++ W).length ≤ x.N := by
      refine nodup_le hn7 ?_ ?_
      · rw [List.nodup_append]
        refine ⟨hnd, h.nd, ?_⟩
        intro a ha b hbb
        rintro rfl
        obtain ⟨q, hq, rfl⟩ := List.mem_map.1 ha
        have h2 := hall q hq
        rcases (hmem q hq).2 with ⟨e, _⟩ | ⟨_, _, e⟩
        · rw [e] at h2; simp [aI] at h2
        · exact e hbb
      · intro r hr
        rcases List.mem_append.1 hr with hr | hr
        · obtain ⟨q, hq, rfl⟩ := List.mem_map.1 hr
          exact (hmem q hq).1
        · exact h.who r hr
    simp only [List.length_append, List.length_map] at hA
    rw [hmaj] at hen hKm
    omega
end

theorem c19 (N L k : Int) (h : ByteArray) (c : List Int) (s : Int) (d asked : List Int) (loc : List At2) (later : List Int) (lead : Bool) (who : List Int) (b1 b2 : Int) (hd : d.length ≤ 4611686018427387903) (hc : c.length ≤ 140737488351232) (ha : asked.length * 8 ≤ 140737488351232) (hlo : ∀ q, q ∈ loc → q.2.length * 8 ≤ 140737488351232) (hla : later.length ≤ 1000000000) (hwh : who.length * 8 ≤ 140737488351232) :
    Pure Try.prog 19 [.agg (runL N L k h c s d asked loc later lead), pInts who, bal b1 b2] (rBool true) := by
  by_cases hg : 1 ≤ N ∧ N ≤ 7 ∧ 0 ≤ L ∧ L < N ∧ attOK s d = true ∧ (d.length : Int) = N ∧ kOK k = true
  case neg =>
    have k79 := c79 N L k h c s d asked loc later lead hd hg
    refine pure_of_body Try.func19 rfl (by simp [Try.f19]) ?_; rw [Try.ntmps19, Try.results19]; intro w0 G0
    ((repeat' (first | refine thenL_n ?_ | refine thenL_r ?_ | refine thenL_x ?_ | refine blockL_n ?_ | refine blockL_r ?_ | refine blockL_x ?_ | refine blockL_y rfl ?_ | refine awp_seq ?_ | refine awp_block ?_ | refine awp_ret ?_ | refine awp_exit ?_ | refine awp_skip ?_ | exact absurd hcond (by decide) | (first | (refine awp_txt ?_; refine runs_to [] (by simp only [go_sem]; rfl) ?_) | (refine awp_draw mixed ?_; refine runs_to [] (by simp only [go_sem]; rfl) ?_)) | refine runD_nil ⟨by kernel_rfl, ?_⟩ | refine runD_nil ?_ | (refine runD_call (k79) cb79 (by rfl) (by simp only [go_sem]; rfl) (by ((repeat' (first | exact All2.nil | refine All2.cons ?_ ?_ | exact SubV.one (SubT.same _) | exact SubV.one (SubT.nil _) | refine SubV.agg ?_ | exact SubT.same _ | exact SubT.nil _)); first | done | fail)) ?_; refine runs_to [] (by simp only [go_sem]; rfl) ?_) | (refine runD_call (c72) cb72 (by rfl) (by simp only [go_sem]; rfl) (by ((repeat' (first | exact All2.nil | refine All2.cons ?_ ?_ | exact SubV.one (SubT.same _) | exact SubV.one (SubT.nil _) | refine SubV.agg ?_ | exact SubT.same _ | exact SubT.nil _)); first | done | fail)) ?_; refine runs_to [] (by simp only [go_sem]; rfl) ?_) | (refine awp_cond (b := _) (by simp only [go_sem, evB]; rfl) (fun hcond => ?_) (fun hcond => ?_)))); all_goals (refine leaves_ok (by first | exact Or.inl rfl | exact Or.inr rfl) (by simp only [go_sem, resAll, resL, packL, vecsOf, freezeAll, freezeL]; rfl) ?_; (first | refine SubR.v ?_ | refine SubR.tup ?_); ((repeat' (first | exact All2.nil | refine All2.cons ?_ ?_ | exact SubV.one (SubT.same _) | exact SubV.one (SubT.nil _) | refine SubV.agg ?_ | exact SubT.same _ | exact SubT.nil _)); first | done | fail)))
  obtain ⟨g1, g2, g3, g4, g5, g6, g7⟩ := hg
  obtain ⟨x, hxe⟩ : ∃ x : RN, x = ⟨N.toNat, L.toNat, k, h, c, s, d, asked, loc, later, lead⟩ := ⟨_, rfl⟩
  have hx : x.ok := by
    subst hxe
    exact ⟨by simp only; omega, by simp only; omega, by simp only; omega, g5, by simp only; omega, g7, hc, ha, hlo⟩
  have hxN : (x.N : Int) = N := by subst hxe; simp only; omega
  have hxL : (x.L : Int) = L := by subst hxe; simp only; omega
  obtain ⟨rfl, rfl, rfl, rfl, rfl, rfl, rfl, rfl, rfl⟩ : k = x.k ∧ h = x.h ∧ c = x.c ∧ s = x.s ∧ d = x.d ∧ asked = x.asked ∧ loc = x.loc ∧ later = x.later ∧ lead = x.lead := by subst hxe; exact ⟨rfl, rfl, rfl, rfl, rfl, rfl, rfl, rfl, rfl⟩
  clear hxe
  subst hxN
  subst hxL
  have kw79 := s79 x hx
  have hP := PI_all hx x.asked.length
  generalize plS x x.asked.length = a at kw79 hP
  obtain ⟨ls0, t⟩ := a
  simp only at kw79 hP
  generalize chS t = ch at kw79
  cases hb : balOK b1 b2 with
  | false =>
    refine pure_of_body Try.func19 rfl (by simp [Try.f19]) ?_; rw [Try.ntmps19, Try.results19]; intro w0 G0
    ((repeat' (first | refine thenL_n ?_ | refine thenL_r ?_ | refine thenL_x ?_ | refine blockL_n ?_ | refine blockL_r ?_ | refine blockL_x ?_ | refine blockL_y rfl ?_ | refine awp_seq ?_ | refine awp_block ?_ | refine awp_ret ?_ | refine awp_exit ?_ | refine awp_skip ?_ | exact absurd hcond (by decide) | (first | (refine awp_txt ?_; refine runs_to [] (by simp only [go_sem, hb]; rfl) ?_) | (refine awp_draw mixed ?_; refine runs_to [] (by simp only [go_sem, hb]; rfl) ?_)) | refine runD_nil ⟨by kernel_rfl, ?_⟩ | refine runD_nil ?_ | (refine runD_does [] [50] (kw79) cb79 (by rfl) (.inl (by simp only [go_sem, hb]; rfl)) (by simp only [go_sem, ren, dels, adds, rn, At.rn, V1.rn, SV.rn, Cont.rn, Loc.rn, news, vals2, keys2, namesB, locKeys, injOn, noSlots, List.all, List.any, hb]; rfl) (by first | kernel_rfl | rfl) (by simp only [go_sem, ren, dels, adds, rn, At.rn, V1.rn, SV.rn, Cont.rn, Loc.rn, news, vals2, keys2, namesB, locKeys, injOn, noSlots, List.all, List.any, hb]; ((repeat' (first | exact All2.nil | refine All2.cons ?_ ?_ | exact SubW.one (SubA.same _) | exact SubW.one (SubA.nil _) | exact SubW.one (SubA.ptr _) | refine SubW.agg ?_ | exact SubA.same _ | exact SubA.nil _ | exact SubA.ptr _)); first | done | fail)) (by simp only [go_sem, ren, dels, adds, rn, At.rn, V1.rn, SV.rn, Cont.rn, Loc.rn, news, vals2, keys2, namesB, locKeys, injOn, noSlots, List.all, List.any, hb]; (repeat' (first | exact trivial | refine And.intro rfl ?_)); first | done | fail) (by simp only [go_sem, ren, dels, adds, rn, At.rn, V1.rn, SV.rn, Cont.rn, Loc.rn, news, vals2, keys2, namesB, locKeys, injOn, noSlots, List.all, List.any, hb]; (repeat' (first | exact trivial | refine And.intro rfl ?_)); first | done | fail) ?_; simp only [go_sem, ren, dels, adds, rn, At.rn, V1.rn, SV.rn, Cont.rn, Loc.rn, news, vals2, keys2, namesB, locKeys, injOn, noSlots, List.all, List.any, hb]; refine runs_to [] (by simp only [go_sem, hb]; rfl) ?_) | (refine runD_call (c24 _ _) cb24 (by rfl) (by simp only [go_sem, hb]; rfl) (by ((repeat' (first | exact All2.nil | refine All2.cons ?_ ?_ | exact SubV.one (SubT.same _) | exact SubV.one (SubT.nil _) | refine SubV.agg ?_ | exact SubT.same _ | exact SubT.nil _)); first | done | fail)) ?_; refine runs_to [] (by simp only [go_sem, hb]; rfl) ?_) | (refine runD_call (c72) cb72 (by rfl) (by simp only [go_sem, hb]; rfl) (by ((repeat' (first | exact All2.nil | refine All2.cons ?_ ?_ | exact SubV.one (SubT.same _) | exact SubV.one (SubT.nil _) | refine SubV.agg ?_ | exact SubT.same _ | exact SubT.nil _)); first | done | fail)) ?_; refine runs_to [] (by simp only [go_sem, hb]; rfl) ?_) | (refine awp_cond (b := _) (by simp only [go_sem, evB, hb]; rfl) (fun hcond => ?_) (fun hcond => ?_)))); all_goals (refine leaves_ok (by first | exact Or.inl rfl | exact Or.inr rfl) (by simp only [go_sem, resAll, resL, packL, vecsOf, freezeAll, freezeL, hb]; rfl) ?_; (first | refine SubR.v ?_ | refine SubR.tup ?_); ((repeat' (first | exact All2.nil | refine All2.cons ?_ ?_ | exact SubV.one (SubT.same _) | exact SubV.one (SubT.nil _) | refine SubV.agg ?_ | exact SubT.same _ | exact SubT.nil _)); first | done | fail)))
  | true =>
  by_cases hb0 : b1 = 0
  · have hb0' : (b1 == 0) = true := by simp [hb0]
    refine pure_of_body Try.func19 rfl (by simp [Try.f19]) ?_; rw [Try.ntmps19, Try.results19]; intro w0 G0
    ((repeat' (first | refine thenL_n ?_ | refine thenL_r ?_ | refine thenL_x ?_ | refine blockL_n ?_ | refine blockL_r ?_ | refine blockL_x ?_ | refine blockL_y rfl ?_ | refine awp_seq ?_ | refine awp_block ?_ | refine awp_ret ?_ | refine awp_exit ?_ | refine awp_skip ?_ | exact absurd hcond (by decide) | (first | (refine awp_txt ?_; refine runs_to [] (by simp only [go_sem, hb, hb0']; rfl) ?_) | (refine awp_draw mixed ?_; refine runs_to [] (by simp only [go_sem, hb, hb0']; rfl) ?_)) | refine runD_nil ⟨by kernel_rfl, ?_⟩ | refine runD_nil ?_ | (refine runD_does [] [50] (kw79) cb79 (by rfl) (.inl (by simp only [go_sem, hb, hb0']; rfl)) (by simp only [go_sem, ren, dels, adds, rn, At.rn, V1.rn, SV.rn, Cont.rn, Loc.rn, news, vals2, keys2, namesB, locKeys, injOn, noSlots, List.all, List.any, hb, hb0']; rfl) (by first | kernel_rfl | rfl) (by simp only [go_sem, ren, dels, adds, rn, At.rn, V1.rn, SV.rn, Cont.rn, Loc.rn, news, vals2, keys2, namesB, locKeys, injOn, noSlots, List.all, List.any, hb, hb0']; ((repeat' (first | exact All2.nil | refine All2.cons ?_ ?_ | exact SubW.one (SubA.same _) | exact SubW.one (SubA.nil _) | exact SubW.one (SubA.ptr _) | refine SubW.agg ?_ | exact SubA.same _ | exact SubA.nil _ | exact SubA.ptr _)); first | done | fail)) (by simp only [go_sem, ren, dels, adds, rn, At.rn, V1.rn, SV.rn, Cont.rn, Loc.rn, news, vals2, keys2, namesB, locKeys, injOn, noSlots, List.all, List.any, hb, hb0']; (repeat' (first | exact trivial | refine And.intro rfl ?_)); first | done | fail) (by simp only [go_sem, ren, dels, adds, rn, At.rn, V1.rn, SV.rn, Cont.rn, Loc.rn, news, vals2, keys2, namesB, locKeys, injOn, noSlots, List.all, List.any, hb, hb0']; (repeat' (first | exact trivial | refine And.intro rfl ?_)); first | done | fail) ?_; simp only [go_sem, ren, dels, adds, rn, At.rn, V1.rn, SV.rn, Cont.rn, Loc.rn, news, vals2, keys2, namesB, locKeys, injOn, noSlots, List.all, List.any, hb, hb0']; refine runs_to [] (by simp only [go_sem, hb, hb0']; rfl) ?_) | (refine runD_call (c24 _ _) cb24 (by rfl) (by simp only [go_sem, hb, hb0']; rfl) (by ((repeat' (first | exact All2.nil | refine All2.cons ?_ ?_ | exact SubV.one (SubT.same _) | exact SubV.one (SubT.nil _) | refine SubV.agg ?_ | exact SubT.same _ | exact SubT.nil _)); first | done | fail)) ?_; refine runs_to [] (by simp only [go_sem, hb, hb0']; rfl) ?_) | (refine runD_call (c72) cb72 (by rfl) (by simp only [go_sem, hb, hb0']; rfl) (by ((repeat' (first | exact All2.nil | refine All2.cons ?_ ?_ | exact SubV.one (SubT.same _) | exact SubV.one (SubT.nil _) | refine SubV.agg ?_ | exact SubT.same _ | exact SubT.nil _)); first | done | fail)) ?_; refine runs_to [] (by simp only [go_sem, hb, hb0']; rfl) ?_) | (refine awp_cond (b := _) (by simp only [go_sem, evB, hb, hb0']; rfl) (fun hcond => ?_) (fun hcond => ?_)))); all_goals (refine leaves_ok (by first | exact Or.inl rfl | exact Or.inr rfl) (by simp only [go_sem, resAll, resL, packL, vecsOf, freezeAll, freezeL, hb, hb0']; rfl) ?_; (first | refine SubR.v ?_ | refine SubR.tup ?_); ((repeat' (first | exact All2.nil | refine All2.cons ?_ ?_ | exact SubV.one (SubT.same _) | exact SubV.one (SubT.nil _) | refine SubV.agg ?_ | exact SubT.same _ | exact SubT.nil _)); first | done | fail)))
  have hb0' : (b1 == 0) = false := by simp [hb0]
  have hx1 := hx.n1
  have hx7 := hx.n7
  have hxl := hx.l
  have hd3 : x.d.length * 8 ≤ 140737488351232 := by have := hx.dl; omega
  have hc2 : x.c.length ≤ 140737488355328 := by have := hx.cl; omega
  have kw58 := s58 x.N x.L ⟨by omega, by omega⟩ (by omega) (by omega)
  have hlen0 := hP.len
  have hzL : ls0[x.L]? = some (ls0[x.L]'(by omega)) := List.getElem?_eq_getElem _
  have hzLo := PI_ok hx hP hzL
  have hzLa : acP (ls0[x.L]'(by omega)) b1 b2 x.k x.h x.c x.s x.d = (aI x b1 b2, true) := by
    refine acP_any hx hb hb0 (.inr ?_)
    rcases hP.each x.L _ hzL with ⟨e1, _⟩ | ⟨S, D, m, e1, e2, e3, _⟩
    · exact .inl e1
    · exact .inr ⟨S, D, m, e1, e2, e3⟩
  have k81 : Pure Try.prog 81 [iv (ls0[x.L]'(by omega)), bal b1 b2, cm x.k x.h x.c, att x.s x.d] (.tup [iv (acP (ls0[x.L]'(by omega)) b1 b2 x.k x.h x.c x.s x.d).1, vlit (.bool (acP (ls0[x.L]'(by omega)) b1 b2 x.k x.h x.c x.s x.d).2)]) := c81 _ hzLo b1 b2 x.k x.h x.c hc2 x.s x.d hd3
  rw [hzLa] at k81
  simp only at k81
  generalize ls0[x.L]'(by omega) = zL at hzL k81
  have hL0 : (0 : Int) ≤ (x.L : Int) := by omega
  have hAI := fun i => AI_all (b1 := b1) (b2 := b2) hx hP who i
  have hset0 : (List.map ivL ls0).set x.L (ivL (aI x b1 b2)) = List.map ivL (accS x b1 b2 ls0 who 0).1 := by rw [← List.map_set]; rfl
  have hW0 : (accS x b1 b2 ls0 who 0).2 = [(x.L : Int)] := rfl
  have hone : ((1 : Nat) : Int) = 1 := rfl
  have hset1 := hset0
  simp only [ivL, vBy, vInts] at hset1
  refine pure_of_body Try.func19 rfl (by simp [Try.f19]) ?_; rw [Try.ntmps19, Try.results19]; intro w0 G0
  (repeat' (first | refine thenL_n ?_ | refine thenL_r ?_ | refine thenL_x ?_ | refine blockL_n ?_ | refine blockL_r ?_ | refine blockL_x ?_ | refine blockL_y rfl ?_ | refine awp_seq ?_ | refine awp_block ?_ | refine awp_ret ?_ | refine awp_exit ?_ | refine awp_skip ?_ | exact absurd hcond (by decide) | ((fail_if_success (refine isReg 4 ?_)); first | (refine awp_txt ?_; refine runs_to [] (by simp only [go_sem, hb, hb0']; rfl) ?_) | (refine awp_draw mixed ?_; refine runs_to [] (by simp only [go_sem, hb, hb0']; rfl) ?_)) | refine runD_nil ⟨by kernel_rfl, ?_⟩ | refine runD_nil ?_ | (refine runD_does [] [50] (kw79) cb79 (by rfl) (.inl (by simp only [go_sem, hb, hb0']; rfl)) (by simp only [go_sem, ren, dels, adds, rn, At.rn, V1.rn, SV.rn, Cont.rn, Loc.rn, news, vals2, keys2, namesB, locKeys, injOn, noSlots, List.all, List.any, hb, hb0']; rfl) (by first | kernel_rfl | rfl) (by simp only [go_sem, ren, dels, adds, rn, At.rn, V1.rn, SV.rn, Cont.rn, Loc.rn, news, vals2, keys2, namesB, locKeys, injOn, noSlots, List.all, List.any, hb, hb0']; ((repeat' (first | exact All2.nil | refine All2.cons ?_ ?_ | exact SubW.one (SubA.same _) | exact SubW.one (SubA.nil _) | exact SubW.one (SubA.ptr _) | refine SubW.agg ?_ | exact SubA.same _ | exact SubA.nil _ | exact SubA.ptr _)); first | done | fail)) (by simp only [go_sem, ren, dels, adds, rn, At.rn, V1.rn, SV.rn, Cont.rn, Loc.rn, news, vals2, keys2, namesB, locKeys, injOn, noSlots, List.all, List.any, hb, hb0']; (repeat' (first | exact trivial | refine And.intro rfl ?_)); first | done | fail) (by simp only [go_sem, ren, dels, adds, rn, At.rn, V1.rn, SV.rn, Cont.rn, Loc.rn, news, vals2, keys2, namesB, locKeys, injOn, noSlots, List.all, List.any, hb, hb0']; (repeat' (first | exact trivial | refine And.intro rfl ?_)); first | done | fail) ?_; simp only [go_sem, ren, dels, adds, rn, At.rn, V1.rn, SV.rn, Cont.rn, Loc.rn, news, vals2, keys2, namesB, locKeys, injOn, noSlots, List.all, List.any, hb, hb0']; refine runs_to [] (by simp only [go_sem, hb, hb0']; rfl) ?_) | (refine runD_call (c24 _ _) cb24 (by rfl) (by simp only [go_sem, hb, hb0']; rfl) (by ((repeat' (first | exact All2.nil | refine All2.cons ?_ ?_ | exact SubV.one (SubT.same _) | exact SubV.one (SubT.nil _) | refine SubV.agg ?_ | exact SubT.same _ | exact SubT.nil _)); first | done | fail)) ?_; refine runs_to [] (by simp only [go_sem, hb, hb0']; rfl) ?_) | (refine awp_cond (b := _) (by simp only [go_sem, evB, hb, hb0']; rfl) (fun hcond => ?_) (fun hcond => ?_))))
  refine awp_imp (Imp.takeE 22 40 (by simp only [go_sem, fixL, Cont.fix, SV.fix, V1.fix, At.fix, cellsT, renL, Loc.ren, Cont.ren, SV.ren, V1.ren, At.ren, freezeL]) (by simp only [go_sem, fixL, Cont.fix, SV.fix, V1.fix, At.fix, cellsT, renL, Loc.ren, Cont.ren, SV.ren, V1.ren, At.ren, freezeL]; rfl) (by decide) (by simp only [go_sem, fixL, Cont.fix, SV.fix, V1.fix, At.fix, cellsT, renL, Loc.ren, Cont.ren, SV.ren, V1.ren, At.ren, freezeL]; rfl)) ?_
  (repeat' (first | refine thenL_n ?_ | refine thenL_r ?_ | refine thenL_x ?_ | refine blockL_n ?_ | refine blockL_r ?_ | refine blockL_x ?_ | refine blockL_y rfl ?_ | refine awp_seq ?_ | refine awp_block ?_ | refine awp_ret ?_ | refine awp_exit ?_ | refine awp_skip ?_ | exact absurd hcond (by decide) | ((fail_if_success (refine isReg 5 ?_)); first | (refine awp_txt ?_; refine runs_to [] (by simp only [go_sem]; rfl) ?_) | (refine awp_draw mixed ?_; refine runs_to [] (by simp only [go_sem]; rfl) ?_)) | refine runD_nil ⟨by kernel_rfl, ?_⟩ | refine runD_nil ?_ | (refine runD_does [] [22, 20] (kw58) cb58 (by rfl) (.inl (by simp only [go_sem]; rfl)) (by simp only [go_sem, ren, dels, adds, rn, At.rn, V1.rn, SV.rn, Cont.rn, Loc.rn, news, vals2, keys2, namesB, locKeys, injOn, noSlots, List.all, List.any]; rfl) (by first | kernel_rfl | rfl) (by simp only [go_sem, ren, dels, adds, rn, At.rn, V1.rn, SV.rn, Cont.rn, Loc.rn, news, vals2, keys2, namesB, locKeys, injOn, noSlots, List.all, List.any]; ((repeat' (first | exact All2.nil | refine All2.cons ?_ ?_ | exact SubW.one (SubA.same _) | exact SubW.one (SubA.nil _) | exact SubW.one (SubA.ptr _) | refine SubW.agg ?_ | exact SubA.same _ | exact SubA.nil _ | exact SubA.ptr _)); first | done | fail)) (by simp only [go_sem, ren, dels, adds, rn, At.rn, V1.rn, SV.rn, Cont.rn, Loc.rn, news, vals2, keys2, namesB, locKeys, injOn, noSlots, List.all, List.any]; (repeat' (first | exact trivial | refine And.intro rfl ?_)); first | done | fail) (by simp only [go_sem, ren, dels, adds, rn, At.rn, V1.rn, SV.rn, Cont.rn, Loc.rn, news, vals2, keys2, namesB, locKeys, injOn, noSlots, List.all, List.any]; (repeat' (first | exact trivial | refine And.intro rfl ?_)); first | done | fail) ?_; simp only [go_sem, ren, dels, adds, rn, At.rn, V1.rn, SV.rn, Cont.rn, Loc.rn, news, vals2, keys2, namesB, locKeys, injOn, noSlots, List.all, List.any]; refine runs_to [] (by simp only [go_sem]; rfl) ?_) | (refine awp_cond (b := _) (by simp only [go_sem, evB]; rfl) (fun hcond => ?_) (fun hcond => ?_))))
  refine awp_imp (Imp.takeE 3044 90 (by simp only [go_sem, fixL, Cont.fix, SV.fix, V1.fix, At.fix, cellsT, renL, Loc.ren, Cont.ren, SV.ren, V1.ren, At.ren, freezeL]) (by simp only [go_sem, fixL, Cont.fix, SV.fix, V1.fix, At.fix, cellsT, renL, Loc.ren, Cont.ren, SV.ren, V1.ren, At.ren, freezeL]; rfl) (by decide) (by simp only [go_sem, fixL, Cont.fix, SV.fix, V1.fix, At.fix, cellsT, renL, Loc.ren, Cont.ren, SV.ren, V1.ren, At.ren, freezeL]; rfl)) ?_
  (repeat' (first | refine thenL_n ?_ | refine thenL_r ?_ | refine thenL_x ?_ | refine blockL_n ?_ | refine blockL_r ?_ | refine blockL_x ?_ | refine blockL_y rfl ?_ | refine awp_seq ?_ | refine awp_block ?_ | refine awp_ret ?_ | refine awp_exit ?_ | refine awp_skip ?_ | exact absurd hcond (by decide) | (first | (refine awp_txt ?_; refine runs_to [] (by simp only [go_sem, hzL, hlen0, hxl, hL0, hset1]; rfl) ?_) | (refine awp_draw mixed ?_; refine runs_to [] (by simp only [go_sem, hzL, hlen0, hxl, hL0, hset1]; rfl) ?_)) | refine runD_nil ⟨by kernel_rfl, ?_⟩ | refine runD_nil ?_ | (refine runD_call (c74 x.s x.d hd3) cb74 (by rfl) (by simp only [go_sem, hzL, hlen0, hxl, hL0, hset1]; rfl) (by ((repeat' (first | exact All2.nil | refine All2.cons ?_ ?_ | exact SubV.one (SubT.same _) | exact SubV.one (SubT.nil _) | refine SubV.agg ?_ | exact SubT.same _ | exact SubT.nil _)); first | done | fail)) ?_; refine runs_to [] (by simp only [go_sem, hzL, hlen0, hxl, hL0, hset1]; rfl) ?_) | (refine runD_call (k81) cb81 (by rfl) (by simp only [go_sem, hzL, hlen0, hxl, hL0, hset1]; rfl) (by ((repeat' (first | exact All2.nil | refine All2.cons ?_ ?_ | exact SubV.one (SubT.same _) | exact SubV.one (SubT.nil _) | refine SubV.agg ?_ | exact SubT.same _ | exact SubT.nil _)); first | done | fail)) ?_; refine runs_to [] (by simp only [go_sem, hzL, hlen0, hxl, hL0, hset1]; rfl) ?_) | (refine awp_cond (b := _) (by simp only [go_sem, evB, hzL, hlen0, hxl, hL0, hset1]; rfl) (fun hcond => ?_) (fun hcond => ?_))))
  refine awp_loop (fun i : Nat => [(.slot 3, sP 3), (.cell 3 0, .c (lI x.N)), (.cell 3 1, .c (lI x.L)), (.cell 3 2, .c (lI x.k)), (.cell 3 3, .c (.t (.lit (.string x.h)))), (.cell 3 4, .c (.t (vBy x.c))), (.cell 3 5, .c (lI x.s)), (.cell 3 6, .c (.t (vInts x.d))), (.cell 3 9, .c (.t (vInts x.later))), (.cell 3 10, .c (lB x.lead)), (.slot 5, sP 5), (.cell 5 0, .c (lI b1)), (.cell 5 1, .c (lI b2)), (.slot 7, sR 40), (.vec 40, .r 13 133 ((accS x b1 b2 ls0 who i).1.map ivL)), (.slot 10, sP 44), (.cell 44 0, .c (lI x.N)), (.cell 44 1, .c (.row 90)), (.vec 90, rV 3 (accS x b1 b2 ls0 who i).2), (.slot 72, sT (vInts who)), (.slot 73, sI who.length), (.slot 74, sI i)]) (fun i => i ≤ who.length) (fun i => who.length - i) 0 (Nat.zero_le _) (by refine Imp.of_in ?_; simp only [go_sem, hset1, hW0, Int.natCast_zero]) ?_
  intro i hi
  have hA := hAI i
  by_cases hlt : (i : Int) < who.length
  · have hil : i < who.length := by omega
    have hxi : who[i]? = some who[i] := List.getElem?_eq_getElem hil
    have hnext : accS x b1 b2 ls0 who (i + 1) = if who[i] < 0 ∨ (x.N : Int) ≤ who[i] ∨ who[i] = (x.L : Int) then accS x b1 b2 ls0 who i else ((accS x b1 b2 ls0 who i).1.set who[i].toNat (aI x b1 b2), add1 x.N (accS x b1 b2 ls0 who i).2 who[i]) := by rw [accS, hxi]
    have hw := up i (by omega)
    generalize who[i] = r at hxi hnext
    generalize accS x b1 b2 ls0 who i = a at hA hnext
    obtain ⟨ls, W⟩ := a
    simp only at hA hnext
    have hlen := hA.len
    have hWl := nodup_le hx7 hA.nd hA.who
    by_cases q1 : r < 0
    · have hn := hnext; rw [if_pos (.inl q1)] at hn
      (repeat' (first | refine thenL_n ?_ | refine thenL_r ?_ | refine thenL_x ?_ | refine blockL_n ?_ | refine blockL_r ?_ | refine blockL_x ?_ | refine blockL_y rfl ?_ | refine awp_seq ?_ | refine awp_block ?_ | refine awp_ret ?_ | refine awp_exit ?_ | refine awp_skip ?_ | exact absurd hcond (by decide) | (first | (refine awp_txt ?_; refine runs_to [] (by simp only [go_sem, hlt, hil, hxi, hw, q1]; rfl) ?_) | (refine awp_draw mixed ?_; refine runs_to [] (by simp only [go_sem, hlt, hil, hxi, hw, q1]; rfl) ?_)) | refine runD_nil ⟨by kernel_rfl, ?_⟩ | refine runD_nil ?_ | (refine awp_cond (b := _) (by simp only [go_sem, evB, hlt, hil, hxi, hw, q1]; rfl) (fun hcond => ?_) (fun hcond => ?_))))
      exact ⟨i + 1, by omega, by omega, (by refine Imp.of_in ?_; simp only [go_sem, hn])⟩
    by_cases q2 : (x.N : Int) ≤ r
    · have hn := hnext; rw [if_pos (.inr (.inl q2))] at hn
      (repeat' (first | refine thenL_n ?_ | refine thenL_r ?_ | refine thenL_x ?_ | refine blockL_n ?_ | refine blockL_r ?_ | refine blockL_x ?_ | refine blockL_y rfl ?_ | refine awp_seq ?_ | refine awp_block ?_ | refine awp_ret ?_ | refine awp_exit ?_ | refine awp_skip ?_ | exact absurd hcond (by decide) | (first | (refine awp_txt ?_; refine runs_to [] (by simp only [go_sem, hlt, hil, hxi, hw, q1, q2]; rfl) ?_) | (refine awp_draw mixed ?_; refine runs_to [] (by simp only [go_sem, hlt, hil, hxi, hw, q1, q2]; rfl) ?_)) | refine runD_nil ⟨by kernel_rfl, ?_⟩ | refine runD_nil ?_ | (refine awp_cond (b := _) (by simp only [go_sem, evB, hlt, hil, hxi, hw, q1, q2]; rfl) (fun hcond => ?_) (fun hcond => ?_))))
      exact ⟨i + 1, by omega, by omega, (by refine Imp.of_in ?_; simp only [go_sem, hn])⟩
    by_cases q3 : r = (x.L : Int)
    · have q3' : (r == (x.L : Int)) = true := by simp [q3]
      have hn := hnext; rw [if_pos (.inr (.inr q3))] at hn
      (repeat' (first | refine thenL_n ?_ | refine thenL_r ?_ | refine thenL_x ?_ | refine blockL_n ?_ | refine blockL_r ?_ | refine blockL_x ?_ | refine blockL_y rfl ?_ | refine awp_seq ?_ | refine awp_block ?_ | refine awp_ret ?_ | refine awp_exit ?_ | refine awp_skip ?_ | exact absurd hcond (by decide) | (first | (refine awp_txt ?_; refine runs_to [] (by simp only [go_sem, hlt, hil, hxi, hw, q1, q2, q3']; rfl) ?_) | (refine awp_draw mixed ?_; refine runs_to [] (by simp only [go_sem, hlt, hil, hxi, hw, q1, q2, q3']; rfl) ?_)) | refine runD_nil ⟨by kernel_rfl, ?_⟩ | refine runD_nil ?_ | (refine awp_cond (b := _) (by simp only [go_sem, evB, hlt, hil, hxi, hw, q1, q2, q3']; rfl) (fun hcond => ?_) (fun hcond => ?_))))
      exact ⟨i + 1, by omega, by omega, (by refine Imp.of_in ?_; simp only [go_sem, hn])⟩
    have q3' : (r == (x.L : Int)) = false := by simp [q3]
    rw [if_neg (by omega)] at hnext
    obtain ⟨n, rfl⟩ := Int.eq_ofNat_of_zero_le (show 0 ≤ r by omega)
    rw [Int.toNat_natCast] at hnext
    have hnlN : n < x.N := by omega
    have hz : ls[n]? = some (ls[n]'(by omega)) := List.getElem?_eq_getElem _
    obtain ⟨hzo, hzt⟩ := AI_ok hx hA hz
    generalize ls[n]'(by omega) = z at hz hzo hzt
    have kk : Pure Try.prog 81 [iv z, bal b1 b2, cm x.k x.h x.c, att x.s x.d] (.tup [iv (acP z b1 b2 x.k x.h x.c x.s x.d).1, vlit (.bool (acP z b1 b2 x.k x.h x.c x.s x.d).2)]) := c81 z hzo b1 b2 x.k x.h x.c hc2 x.s x.d hd3
    rw [acP_any hx hb hb0 hzt] at kk
    simp only at kk
    have kw81 := kk
    have k59 := s59 x.N W [(n : Int)] (by simp) (by omega)
    have hadd : addW x.N W [(n : Int)] = add1 x.N W n := rfl
    rw [hadd] at k59
    have kw59 := k59
    generalize add1 (x.N : Int) W n = W' at hnext kw59
    have hset2 : (List.map ivL ls).set n (ivL (aI x b1 b2)) = List.map ivL (ls.set n (aI x b1 b2)) := by rw [List.map_set]
    generalize aI x b1 b2 = A at hnext kw81 hset2
    simp only [ivL, vBy, vInts] at hset2
    have hn00 : (0 : Int) ≤ (n : Int) := by omega
    (repeat' (first | refine thenL_n ?_ | refine thenL_r ?_ | refine thenL_x ?_ | refine blockL_n ?_ | refine blockL_r ?_ | refine blockL_x ?_ | refine blockL_y rfl ?_ | refine awp_seq ?_ | refine awp_block ?_ | refine awp_ret ?_ | refine awp_exit ?_ | refine awp_skip ?_ | exact absurd hcond (by decide) | (first | (refine awp_txt ?_; refine runs_to [113] (by simp only [go_sem, hlt, hil, hxi, hw, q1, q2, q3', hz, hlen, hnlN, hn00, hset2]; rfl) ?_) | (refine awp_draw mixed ?_; refine runs_to [113] (by simp only [go_sem, hlt, hil, hxi, hw, q1, q2, q3', hz, hlen, hnlN, hn00, hset2]; rfl) ?_)) | refine runD_nil ⟨by kernel_rfl, ?_⟩ | refine runD_nil ?_ | (refine runD_call (c74 x.s x.d hd3) cb74 (by rfl) (by simp only [go_sem, hlt, hil, hxi, hw, q1, q2, q3', hz, hlen, hnlN, hn00, hset2]; rfl) (by ((repeat' (first | exact All2.nil | refine All2.cons ?_ ?_ | exact SubV.one (SubT.same _) | exact SubV.one (SubT.nil _) | refine SubV.agg ?_ | exact SubT.same _ | exact SubT.nil _)); first | done | fail)) ?_; refine runs_to [113] (by simp only [go_sem, hlt, hil, hxi, hw, q1, q2, q3', hz, hlen, hnlN, hn00, hset2]; rfl) ?_) | (refine runD_call (kw81) cb81 (by rfl) (by simp only [go_sem, hlt, hil, hxi, hw, q1, q2, q3', hz, hlen, hnlN, hn00, hset2]; rfl) (by ((repeat' (first | exact All2.nil | refine All2.cons ?_ ?_ | exact SubV.one (SubT.same _) | exact SubV.one (SubT.nil _) | refine SubV.agg ?_ | exact SubT.same _ | exact SubT.nil _)); first | done | fail)) ?_; refine runs_to [113] (by simp only [go_sem, hlt, hil, hxi, hw, q1, q2, q3', hz, hlen, hnlN, hn00, hset2]; rfl) ?_) | (refine runD_does [(100000, 44), (100001, 90)] [40] (kw59) cb59 (by rfl) (.inl (by simp only [go_sem, hlt, hil, hxi, hw, q1, q2, q3', hz, hlen, hnlN, hn00, hset2]; rfl)) (by simp only [go_sem, ren, dels, adds, rn, At.rn, V1.rn, SV.rn, Cont.rn, Loc.rn, news, vals2, keys2, namesB, locKeys, injOn, noSlots, List.all, List.any, hlt, hil, hxi, hw, q1, q2, q3', hz, hlen, hnlN, hn00, hset2]; rfl) (by first | kernel_rfl | rfl) (by simp only [go_sem, ren, dels, adds, rn, At.rn, V1.rn, SV.rn, Cont.rn, Loc.rn, news, vals2, keys2, namesB, locKeys, injOn, noSlots, List.all, List.any, hlt, hil, hxi, hw, q1, q2, q3', hz, hlen, hnlN, hn00, hset2]; ((repeat' (first | exact All2.nil | refine All2.cons ?_ ?_ | exact SubW.one (SubA.same _) | exact SubW.one (SubA.nil _) | exact SubW.one (SubA.ptr _) | refine SubW.agg ?_ | exact SubA.same _ | exact SubA.nil _ | exact SubA.ptr _)); first | done | fail)) (by simp only [go_sem, ren, dels, adds, rn, At.rn, V1.rn, SV.rn, Cont.rn, Loc.rn, news, vals2, keys2, namesB, locKeys, injOn, noSlots, List.all, List.any, hlt, hil, hxi, hw, q1, q2, q3', hz, hlen, hnlN, hn00, hset2]; (repeat' (first | exact trivial | refine And.intro rfl ?_)); first | done | fail) (by simp only [go_sem, ren, dels, adds, rn, At.rn, V1.rn, SV.rn, Cont.rn, Loc.rn, news, vals2, keys2, namesB, locKeys, injOn, noSlots, List.all, List.any, hlt, hil, hxi, hw, q1, q2, q3', hz, hlen, hnlN, hn00, hset2]; (repeat' (first | exact trivial | refine And.intro rfl ?_)); first | done | fail) ?_; simp only [go_sem, ren, dels, adds, rn, At.rn, V1.rn, SV.rn, Cont.rn, Loc.rn, news, vals2, keys2, namesB, locKeys, injOn, noSlots, List.all, List.any, hlt, hil, hxi, hw, q1, q2, q3', hz, hlen, hnlN, hn00, hset2]; refine runs_to [113] (by simp only [go_sem, hlt, hil, hxi, hw, q1, q2, q3', hz, hlen, hnlN, hn00, hset2]; rfl) ?_) | (refine awp_cond (b := _) (by simp only [go_sem, evB, hlt, hil, hxi, hw, q1, q2, q3', hz, hlen, hnlN, hn00, hset2]; rfl) (fun hcond => ?_) (fun hcond => ?_))))
    exact ⟨i + 1, by omega, by omega, (by refine Imp.back 114 90 (by simp only [go_sem, renL, Loc.ren, Cont.ren, SV.ren, V1.ren, At.ren,  hnext, hset2]) (by simp only [go_sem, renL, Loc.ren, Cont.ren, SV.ren, V1.ren, At.ren,  hnext, hset2]) (by simp only [go_sem, renL, Loc.ren, Cont.ren, SV.ren, V1.ren, At.ren,  hnext, hset2]) (by decide) (by decide) ?_; refine Imp.of_in ?_; simp only [go_sem, renL, Loc.ren, Cont.ren, SV.ren, V1.ren, At.ren,  hnext, hset2])⟩
  · have hii : i = who.length := by omega
    subst hii
    have hacc := fun he l => accepted hx hA he l
    have hlok := fun l => lat2_ok hx hA (l := l)
    have hokz := fun (r : Nat) (z : IN) hz => AI_ok hx hA (r := r) (z := z) hz
    generalize accS x b1 b2 ls0 who who.length = a at hA hacc hlok hokz
    obtain ⟨ls, W⟩ := a
    simp only at hA hacc hlok hokz
    have hlen := hA.len
    have kw61 := s61 x.N W
    by_cases he : maj x.N ≤ (W.length : Int)
    case neg =>
      have he' : decide (maj (x.N : Int) ≤ (W.length : Int)) = false := by simp only [decide_eq_false_iff_not]; exact he
      ((repeat' (first | refine thenL_n ?_ | refine thenL_r ?_ | refine thenL_x ?_ | refine blockL_n ?_ | refine blockL_r ?_ | refine blockL_x ?_ | refine blockL_y rfl ?_ | refine awp_seq ?_ | refine awp_block ?_ | refine awp_ret ?_ | refine awp_exit ?_ | refine awp_skip ?_ | exact absurd hcond (by decide) | (first | (refine awp_txt ?_; refine runs_to [] (by simp only [go_sem, hlt, he]; rfl) ?_) | (refine awp_draw mixed ?_; refine runs_to [] (by simp only [go_sem, hlt, he]; rfl) ?_)) | refine runD_nil ⟨by kernel_rfl, ?_⟩ | refine runD_nil ?_ | (refine runD_looks [(100000, 44), (100001, 90)] (kw61) cb61 (by rfl) (.inl (by simp only [go_sem, hlt, he]; rfl)) (by first | kernel_rfl | rfl) (by simp only [go_sem, ren, dels, adds, rn, At.rn, V1.rn, SV.rn, Cont.rn, Loc.rn, news, vals2, keys2, namesB, locKeys, injOn, noSlots, List.all, List.any, hlt, he]; ((repeat' (first | exact All2.nil | refine All2.cons ?_ ?_ | exact SubW.one (SubA.same _) | exact SubW.one (SubA.nil _) | exact SubW.one (SubA.ptr _) | refine SubW.agg ?_ | exact SubA.same _ | exact SubA.nil _ | exact SubA.ptr _)); first | done | fail)) (by simp only [go_sem, ren, dels, adds, rn, At.rn, V1.rn, SV.rn, Cont.rn, Loc.rn, news, vals2, keys2, namesB, locKeys, injOn, noSlots, List.all, List.any, hlt, he]; (repeat' (first | exact trivial | refine And.intro rfl ?_)); first | done | fail) (by simp only [go_sem, ren, dels, adds, rn, At.rn, V1.rn, SV.rn, Cont.rn, Loc.rn, news, vals2, keys2, namesB, locKeys, injOn, noSlots, List.all, List.any, hlt, he]; (repeat' (first | exact trivial | refine And.intro rfl ?_)); first | done | fail) ?_; simp only [go_sem, ren, dels, adds, rn, At.rn, V1.rn, SV.rn, Cont.rn, Loc.rn, news, vals2, keys2, namesB, locKeys, injOn, noSlots, List.all, List.any, hlt, he]; refine runs_to [] (by simp only [go_sem, hlt, he]; rfl) ?_) | (refine runD_call (c72) cb72 (by rfl) (by simp only [go_sem, hlt, he]; rfl) (by ((repeat' (first | exact All2.nil | refine All2.cons ?_ ?_ | exact SubV.one (SubT.same _) | exact SubV.one (SubT.nil _) | refine SubV.agg ?_ | exact SubT.same _ | exact SubT.nil _)); first | done | fail)) ?_; refine runs_to [] (by simp only [go_sem, hlt, he]; rfl) ?_) | (refine awp_cond (b := _) (by simp only [go_sem, evB, hlt, he]; rfl) (fun hcond => ?_) (fun hcond => ?_)))); all_goals (refine leaves_ok (by first | exact Or.inl rfl | exact Or.inr rfl) (by simp only [go_sem, resAll, resL, packL, vecsOf, freezeAll, freezeL, hlt, he]; rfl) ?_; (first | refine SubR.v ?_ | refine SubR.tup ?_); ((repeat' (first | exact All2.nil | refine All2.cons ?_ ?_ | exact SubV.one (SubT.same _) | exact SubV.one (SubT.nil _) | refine SubV.agg ?_ | exact SubT.same _ | exact SubT.nil _)); first | done | fail)))
    (repeat' (first | refine thenL_n ?_ | refine thenL_r ?_ | refine thenL_x ?_ | refine blockL_n ?_ | refine blockL_r ?_ | refine blockL_x ?_ | refine blockL_y rfl ?_ | refine awp_seq ?_ | refine awp_block ?_ | refine awp_ret ?_ | refine awp_exit ?_ | refine awp_skip ?_ | exact absurd hcond (by decide) | ((fail_if_success (refine isReg 19 ?_)); first | (refine awp_txt ?_; refine runs_to [] (by simp only [go_sem, hlt, he]; rfl) ?_) | (refine awp_draw mixed ?_; refine runs_to [] (by simp only [go_sem, hlt, he]; rfl) ?_)) | refine runD_nil ⟨by kernel_rfl, ?_⟩ | refine runD_nil ?_ | (refine runD_looks [(100000, 44), (100001, 90)] (kw61) cb61 (by rfl) (.inl (by simp only [go_sem, hlt, he]; rfl)) (by first | kernel_rfl | rfl) (by simp only [go_sem, ren, dels, adds, rn, At.rn, V1.rn, SV.rn, Cont.rn, Loc.rn, news, vals2, keys2, namesB, locKeys, injOn, noSlots, List.all, List.any, hlt, he]; ((repeat' (first | exact All2.nil | refine All2.cons ?_ ?_ | exact SubW.one (SubA.same _) | exact SubW.one (SubA.nil _) | exact SubW.one (SubA.ptr _) | refine SubW.agg ?_ | exact SubA.same _ | exact SubA.nil _ | exact SubA.ptr _)); first | done | fail)) (by simp only [go_sem, ren, dels, adds, rn, At.rn, V1.rn, SV.rn, Cont.rn, Loc.rn, news, vals2, keys2, namesB, locKeys, injOn, noSlots, List.all, List.any, hlt, he]; (repeat' (first | exact trivial | refine And.intro rfl ?_)); first | done | fail) (by simp only [go_sem, ren, dels, adds, rn, At.rn, V1.rn, SV.rn, Cont.rn, Loc.rn, news, vals2, keys2, namesB, locKeys, injOn, noSlots, List.all, List.any, hlt, he]; (repeat' (first | exact trivial | refine And.intro rfl ?_)); first | done | fail) ?_; simp only [go_sem, ren, dels, adds, rn, At.rn, V1.rn, SV.rn, Cont.rn, Loc.rn, news, vals2, keys2, namesB, locKeys, injOn, noSlots, List.all, List.any, hlt, he]; refine runs_to [] (by simp only [go_sem, hlt, he]; rfl) ?_) | (refine awp_cond (b := _) (by simp only [go_sem, evB, hlt, he]; rfl) (fun hcond => ?_) (fun hcond => ?_))))
    (repeat' (first | refine thenL_n ?_ | refine thenL_r ?_ | refine thenL_x ?_ | refine blockL_n ?_ | refine blockL_r ?_ | refine blockL_x ?_ | refine blockL_y rfl ?_ | refine awp_seq ?_ | refine awp_block ?_ | refine awp_ret ?_ | refine awp_exit ?_ | refine awp_skip ?_ | exact absurd hcond (by decide) | (first | (refine awp_txt ?_; refine runs_to [] (by simp only [go_sem]; rfl) ?_) | (refine awp_draw mixed ?_; refine runs_to [] (by simp only [go_sem]; rfl) ?_)) | refine runD_nil ⟨by kernel_rfl, ?_⟩ | refine runD_nil ?_ | (refine awp_cond (b := _) (by simp only [go_sem, evB]; rfl) (fun hcond => ?_) (fun hcond => ?_))))
    refine awp_loop (fun i : Nat => [(.slot 3, sP 3), (.cell 3 0, .c (lI x.N)), (.cell 3 1, .c (lI x.L)), (.cell 3 2, .c (lI x.k)), (.cell 3 3, .c (.t (.lit (.string x.h)))), (.cell 3 4, .c (.t (vBy x.c))), (.cell 3 5, .c (lI x.s)), (.cell 3 6, .c (.t (vInts x.d))), (.cell 3 10, .c (lB x.lead)), (.slot 7, sR 40), (.vec 40, .r 13 133 (ls.map ivL)), (.slot 16, sR 41), (.vec 41, .r 14 135 ((lat2 x ls (x.later.take i)).map rpL)), (.slot 121, sT (vInts x.later)), (.slot 122, sI x.later.length), (.slot 123, sI i)]) (fun i => i ≤ x.later.length) (fun i => x.later.length - i) 0 (Nat.zero_le _) (Imp.trans (Imp.adopt 16 41 14 135 (by simp only [go_sem]) (by decide) (by simp only [go_sem])) (by refine Imp.of_in ?_; simp only [go_sem, lat2, List.take_zero, List.filter_nil, List.map_nil, Int.natCast_zero])) ?_
    intro i hi
    by_cases hlt : (i : Int) < x.later.length
    · have hil : i < x.later.length := by omega
      have hxi : x.later[i]? = some x.later[i] := List.getElem?_eq_getElem hil
      have hts : x.later.take (i + 1) = x.later.take i ++ [x.later[i]] := List.take_succ_eq_append_getElem hil
      have hw := up i (by omega)
      have hll : (lat2 x ls (x.later.take i)).length ≤ i := by
        unfold lat2
        rw [List.length_map]
        exact Nat.le_trans (List.length_filter_le _ _) (by rw [List.length_take]; omega)
      generalize x.later[i] = r at hxi hts
      have hno : lat2B x r = false → lat2 x ls (x.later.take (i + 1)) = lat2 x ls (x.later.take i) := by
        intro e; unfold lat2; rw [hts, List.filter_append]; simp [e]
      have hyes : lat2B x r = true → lat2 x ls (x.later.take (i + 1)) = lat2 x ls (x.later.take i) ++ [mk2 x ls r] := by
        intro e; unfold lat2; rw [hts, List.filter_append]; simp [e]
      by_cases q1 : 0 ≤ r
      case neg =>
        have hn := hno (by simp [lat2B]; omega)
        (repeat' (first | refine thenL_n ?_ | refine thenL_r ?_ | refine thenL_x ?_ | refine blockL_n ?_ | refine blockL_r ?_ | refine blockL_x ?_ | refine blockL_y rfl ?_ | refine awp_seq ?_ | refine awp_block ?_ | refine awp_ret ?_ | refine awp_exit ?_ | refine awp_skip ?_ | exact absurd hcond (by decide) | (first | (refine awp_txt ?_; refine runs_to [] (by simp only [go_sem, hlt, hil, hxi, hw, q1]; rfl) ?_) | (refine awp_draw mixed ?_; refine runs_to [] (by simp only [go_sem, hlt, hil, hxi, hw, q1]; rfl) ?_)) | refine runD_nil ⟨by kernel_rfl, ?_⟩ | refine runD_nil ?_ | (refine awp_cond (b := _) (by simp only [go_sem, evB, hlt, hil, hxi, hw, q1]; rfl) (fun hcond => ?_) (fun hcond => ?_))))
        exact ⟨i + 1, by omega, by omega, (by refine Imp.of_in ?_; simp only [go_sem, hn])⟩
      by_cases q2 : r < (x.N : Int)
      case neg =>
        have hn := hno (by simp [lat2B]; omega)
        (repeat' (first | refine thenL_n ?_ | refine thenL_r ?_ | refine thenL_x ?_ | refine blockL_n ?_ | refine blockL_r ?_ | refine blockL_x ?_ | refine blockL_y rfl ?_ | refine awp_seq ?_ | refine awp_block ?_ | refine awp_ret ?_ | refine awp_exit ?_ | refine awp_skip ?_ | exact absurd hcond (by decide) | (first | (refine awp_txt ?_; refine runs_to [] (by simp only [go_sem, hlt, hil, hxi, hw, q1, q2]; rfl) ?_) | (refine awp_draw mixed ?_; refine runs_to [] (by simp only [go_sem, hlt, hil, hxi, hw, q1, q2]; rfl) ?_)) | refine runD_nil ⟨by kernel_rfl, ?_⟩ | refine runD_nil ?_ | (refine awp_cond (b := _) (by simp only [go_sem, evB, hlt, hil, hxi, hw, q1, q2]; rfl) (fun hcond => ?_) (fun hcond => ?_))))
        exact ⟨i + 1, by omega, by omega, (by refine Imp.of_in ?_; simp only [go_sem, hn])⟩
      obtain ⟨n, rfl⟩ := Int.eq_ofNat_of_zero_le q1
      have hnlN : n < x.N := by omega
      have hz : ls[n]? = some (ls[n]'(by omega)) := List.getElem?_eq_getElem _
      have hmk : mk2 x ls (n : Int) = ⟨n, ls[n]'(by omega)⟩ := by unfold mk2; rw [Int.toNat_natCast, hz, Option.getD_some]
      rw [hmk] at hyes
      generalize ls[n]'(by omega) = z at hz hyes
      generalize lat2 x ls (x.later.take i) = w at hno hyes hll
      have hc1 : w.length + 1 ≤ 140737488355328 := by omega
      have hc2 : (w.length + 1) * 152 ≤ 140737488355328 := by omega
      have hmap : List.map rpL (w ++ [⟨n, z⟩]) = List.map rpL w ++ [rpL ⟨n, z⟩] := by simp
      simp only [rpL, vBy, vInts] at hmap
      cases hld : x.lead with
      | true =>
        have hn := hyes (by simp [lat2B, hld]; omega)
        (repeat' (first | refine thenL_n ?_ | refine thenL_r ?_ | refine thenL_x ?_ | refine blockL_n ?_ | refine blockL_r ?_ | refine blockL_x ?_ | refine blockL_y rfl ?_ | refine awp_seq ?_ | refine awp_block ?_ | refine awp_ret ?_ | refine awp_exit ?_ | refine awp_skip ?_ | exact absurd hcond (by decide) | (first | (refine awp_txt ?_; refine runs_to [] (by simp only [go_sem, hlt, hil, hxi, hw, q1, q2, hld, hz, hlen, hnlN, hc1, hc2]; rfl) ?_) | (refine awp_draw mixed ?_; refine runs_to [] (by simp only [go_sem, hlt, hil, hxi, hw, q1, q2, hld, hz, hlen, hnlN, hc1, hc2]; rfl) ?_)) | refine runD_nil ⟨by kernel_rfl, ?_⟩ | refine runD_nil ?_ | (refine awp_cond (b := _) (by simp only [go_sem, evB, hlt, hil, hxi, hw, q1, q2, hld, hz, hlen, hnlN, hc1, hc2]; rfl) (fun hcond => ?_) (fun hcond => ?_))))
        exact ⟨i + 1, by omega, by omega, (by refine Imp.back 153 41 (by simp only [go_sem, renL, Loc.ren, Cont.ren, SV.ren, V1.ren, At.ren,  hn, hmap, hld]) (by simp only [go_sem, renL, Loc.ren, Cont.ren, SV.ren, V1.ren, At.ren,  hn, hmap, hld]) (by simp only [go_sem, renL, Loc.ren, Cont.ren, SV.ren, V1.ren, At.ren,  hn, hmap, hld]) (by decide) (by decide) ?_; refine Imp.of_in ?_; simp only [go_sem, renL, Loc.ren, Cont.ren, SV.ren, V1.ren, At.ren,  hn, hmap, hld])⟩
      | false =>
        by_cases q3 : (n : Int) = (x.L : Int)
        · have q3' : ((n : Int) != (x.L : Int)) = false := by simpa using q3
          have hn := hno (by simp [lat2B, hld]; omega)
          (repeat' (first | refine thenL_n ?_ | refine thenL_r ?_ | refine thenL_x ?_ | refine blockL_n ?_ | refine blockL_r ?_ | refine blockL_x ?_ | refine blockL_y rfl ?_ | refine awp_seq ?_ | refine awp_block ?_ | refine awp_ret ?_ | refine awp_exit ?_ | refine awp_skip ?_ | exact absurd hcond (by decide) | (first | (refine awp_txt ?_; refine runs_to [] (by simp only [go_sem, hlt, hil, hxi, hw, q1, q2, hld, q3']; rfl) ?_) | (refine awp_draw mixed ?_; refine runs_to [] (by simp only [go_sem, hlt, hil, hxi, hw, q1, q2, hld, q3']; rfl) ?_)) | refine runD_nil ⟨by kernel_rfl, ?_⟩ | refine runD_nil ?_ | (refine awp_cond (b := _) (by simp only [go_sem, evB, hlt, hil, hxi, hw, q1, q2, hld, q3']; rfl) (fun hcond => ?_) (fun hcond => ?_))))
          exact ⟨i + 1, by omega, by omega, (by refine Imp.of_in ?_; simp only [go_sem, hn, hld])⟩
        · have q3' : ((n : Int) != (x.L : Int)) = true := by simpa using q3
          have hn := hyes (by simp [lat2B, hld]; omega)
          (repeat' (first | refine thenL_n ?_ | refine thenL_r ?_ | refine thenL_x ?_ | refine blockL_n ?_ | refine blockL_r ?_ | refine blockL_x ?_ | refine blockL_y rfl ?_ | refine awp_seq ?_ | refine awp_block ?_ | refine awp_ret ?_ | refine awp_exit ?_ | refine awp_skip ?_ | exact absurd hcond (by decide) | (first | (refine awp_txt ?_; refine runs_to [] (by simp only [go_sem, hlt, hil, hxi, hw, q1, q2, hld, q3', hz, hlen, hnlN, hc1, hc2]; rfl) ?_) | (refine awp_draw mixed ?_; refine runs_to [] (by simp only [go_sem, hlt, hil, hxi, hw, q1, q2, hld, q3', hz, hlen, hnlN, hc1, hc2]; rfl) ?_)) | refine runD_nil ⟨by kernel_rfl, ?_⟩ | refine runD_nil ?_ | (refine awp_cond (b := _) (by simp only [go_sem, evB, hlt, hil, hxi, hw, q1, q2, hld, q3', hz, hlen, hnlN, hc1, hc2]; rfl) (fun hcond => ?_) (fun hcond => ?_))))
          exact ⟨i + 1, by omega, by omega, (by refine Imp.back 153 41 (by simp only [go_sem, renL, Loc.ren, Cont.ren, SV.ren, V1.ren, At.ren,  hn, hmap, hld]) (by simp only [go_sem, renL, Loc.ren, Cont.ren, SV.ren, V1.ren, At.ren,  hn, hmap, hld]) (by simp only [go_sem, renL, Loc.ren, Cont.ren, SV.ren, V1.ren, At.ren,  hn, hmap, hld]) (by decide) (by decide) ?_; refine Imp.of_in ?_; simp only [go_sem, renL, Loc.ren, Cont.ren, SV.ren, V1.ren, At.ren,  hn, hmap, hld])⟩
    · have hta : x.later.take i = x.later := by rw [show i = x.later.length by omega, List.take_length]
      rw [hta]
      have hll : (lat2 x ls x.later).length ≤ x.later.length := by
        unfold lat2
        rw [List.length_map]
        exact List.length_filter_le _ _
      have k68 := c68 x.N x.L (lat2 x ls x.later) (by omega) (hlok x.later)
      have hdd := hacc he x.later
      refine awp_imp (Imp.freezeE 41 (by simp only [go_sem, fixL, Cont.fix, SV.fix, V1.fix, At.fix, cellsT, renL, Loc.ren, Cont.ren, SV.ren, V1.ren, At.ren, freezeL]; rfl) (by simp only [go_sem, fixL, Cont.fix, SV.fix, V1.fix, At.fix, cellsT, renL, Loc.ren, Cont.ren, SV.ren, V1.ren, At.ren, freezeL]; rfl)) ?_
      have kw55 := c55 x.s x.s x.d x.d hd
      simp only [beq_self_eq_true, decide_true, Bool.and_self] at kw55
      rcases hdd with e | e
      · rw [e] at k68
        generalize lat2 x ls x.later = w at k68 ⊢
        ((repeat' (first | refine thenL_n ?_ | refine thenL_r ?_ | refine thenL_x ?_ | refine blockL_n ?_ | refine blockL_r ?_ | refine blockL_x ?_ | refine blockL_y rfl ?_ | refine awp_seq ?_ | refine awp_block ?_ | refine awp_ret ?_ | refine awp_exit ?_ | refine awp_skip ?_ | exact absurd hcond (by decide) | (first | (refine awp_txt ?_; refine runs_to [] (by simp only [go_sem, hlt, pl0]; rfl) ?_) | (refine awp_draw mixed ?_; refine runs_to [] (by simp only [go_sem, hlt, pl0]; rfl) ?_)) | refine runD_nil ⟨by kernel_rfl, ?_⟩ | refine runD_nil ?_ | (refine runD_call (k68) cb68 (by rfl) (by simp only [go_sem, hlt, pl0]; rfl) (by ((repeat' (first | exact All2.nil | refine All2.cons ?_ ?_ | exact SubV.one (SubT.same _) | exact SubV.one (SubT.nil _) | refine SubV.agg ?_ | exact SubT.same _ | exact SubT.nil _)); first | done | fail)) ?_; refine runs_to [] (by simp only [go_sem, hlt, pl0]; rfl) ?_) | (refine runD_call (c72) cb72 (by rfl) (by simp only [go_sem, hlt, pl0]; rfl) (by ((repeat' (first | exact All2.nil | refine All2.cons ?_ ?_ | exact SubV.one (SubT.same _) | exact SubV.one (SubT.nil _) | refine SubV.agg ?_ | exact SubT.same _ | exact SubT.nil _)); first | done | fail)) ?_; refine runs_to [] (by simp only [go_sem, hlt, pl0]; rfl) ?_) | (refine awp_cond (b := _) (by simp only [go_sem, evB, hlt, pl0]; rfl) (fun hcond => ?_) (fun hcond => ?_)))); all_goals (refine leaves_ok (by first | exact Or.inl rfl | exact Or.inr rfl) (by simp only [go_sem, resAll, resL, packL, vecsOf, freezeAll, freezeL, hlt, pl0]; rfl) ?_; (first | refine SubR.v ?_ | refine SubR.tup ?_); ((repeat' (first | exact All2.nil | refine All2.cons ?_ ?_ | exact SubV.one (SubT.same _) | exact SubV.one (SubT.nil _) | refine SubV.agg ?_ | exact SubT.same _ | exact SubT.nil _)); first | done | fail)))
      · rw [e] at k68
        generalize lat2 x ls x.later = w at k68 ⊢
        ((repeat' (first | refine thenL_n ?_ | refine thenL_r ?_ | refine thenL_x ?_ | refine blockL_n ?_ | refine blockL_r ?_ | refine blockL_x ?_ | refine blockL_y rfl ?_ | refine awp_seq ?_ | refine awp_block ?_ | refine awp_ret ?_ | refine awp_exit ?_ | refine awp_skip ?_ | exact absurd hcond (by decide) | (first | (refine awp_txt ?_; refine runs_to [] (by simp only [go_sem, hlt]; rfl) ?_) | (refine awp_draw mixed ?_; refine runs_to [] (by simp only [go_sem, hlt]; rfl) ?_)) | refine runD_nil ⟨by kernel_rfl, ?_⟩ | refine runD_nil ?_ | (refine runD_call (k68) cb68 (by rfl) (by simp only [go_sem, hlt]; rfl) (by ((repeat' (first | exact All2.nil | refine All2.cons ?_ ?_ | exact SubV.one (SubT.same _) | exact SubV.one (SubT.nil _) | refine SubV.agg ?_ | exact SubT.same _ | exact SubT.nil _)); first | done | fail)) ?_; refine runs_to [] (by simp only [go_sem, hlt]; rfl) ?_) | (refine runD_call (c70 _ _ _) cb70 (by rfl) (by simp only [go_sem, hlt]; rfl) (by ((repeat' (first | exact All2.nil | refine All2.cons ?_ ?_ | exact SubV.one (SubT.same _) | exact SubV.one (SubT.nil _) | refine SubV.agg ?_ | exact SubT.same _ | exact SubT.nil _)); first | done | fail)) ?_; refine runs_to [] (by simp only [go_sem, hlt]; rfl) ?_) | (refine runD_call (c71 _ _) cb71 (by rfl) (by simp only [go_sem, hlt]; rfl) (by ((repeat' (first | exact All2.nil | refine All2.cons ?_ ?_ | exact SubV.one (SubT.same _) | exact SubV.one (SubT.nil _) | refine SubV.agg ?_ | exact SubT.same _ | exact SubT.nil _)); first | done | fail)) ?_; refine runs_to [] (by simp only [go_sem, hlt]; rfl) ?_) | (refine runD_call (kw55) cb55 (by rfl) (by simp only [go_sem, hlt]; rfl) (by ((repeat' (first | exact All2.nil | refine All2.cons ?_ ?_ | exact SubV.one (SubT.same _) | exact SubV.one (SubT.nil _) | refine SubV.agg ?_ | exact SubT.same _ | exact SubT.nil _)); first | done | fail)) ?_; refine runs_to [] (by simp only [go_sem, hlt]; rfl) ?_) | (refine runD_call (c72) cb72 (by rfl) (by simp only [go_sem, hlt]; rfl) (by ((repeat' (first | exact All2.nil | refine All2.cons ?_ ?_ | exact SubV.one (SubT.same _) | exact SubV.one (SubT.nil _) | refine SubV.agg ?_ | exact SubT.same _ | exact SubT.nil _)); first | done | fail)) ?_; refine runs_to [] (by simp only [go_sem, hlt]; rfl) ?_) | (refine awp_cond (b := _) (by simp only [go_sem, evB, hlt]; rfl) (fun hcond => ?_) (fun hcond => ?_)))); all_goals (refine leaves_ok (by first | exact Or.inl rfl | exact Or.inr rfl) (by simp only [go_sem, resAll, resL, packL, vecsOf, freezeAll, freezeL, hlt]; rfl) ?_; (first | refine SubR.v ?_ | refine SubR.tup ?_); ((repeat' (first | exact All2.nil | refine All2.cons ?_ ?_ | exact SubV.one (SubT.same _) | exact SubV.one (SubT.nil _) | refine SubV.agg ?_ | exact SubT.same _ | exact SubT.nil _)); first | done | fail)))
end Go.Proofs.Ytbohgpdpglfepaa
