/- Orders: their conditions; which are used, by the program. Conditions: as each theorem says. -/
import Derived.Test.YtbpbgiedemkciaaGreatDoorEd
namespace Go.AM
open Go.Proofs Cw
set_option maxRecDepth 10000
set_option maxHeartbeats 4000000
def flatC (cs : List Cnd) : List AV := flat (encL cs)
theorem flatC_snoc (cs : List Cnd) (x : Cnd) : flatC (cs ++ [x]) = flatC cs ++ cellsOf (encC x) := by
  unfold flatC
  induction cs with
  | nil => simp [encL, flat]
  | cons c r ih => simp only [List.cons_append, encL, flat, List.map_cons, List.flatten_cons] at ih ⊢; rw [ih, List.append_assoc]
theorem cellsC_len (c : Cnd) : (cellsOf (encC c)).length = 5 := by cases c; simp [encC, cellsOf]
theorem flatC_len : ∀ cs : List Cnd, (flatC cs).length = cs.length * 5
  | [] => rfl
  | c :: r => by
    have ih := flatC_len r
    have e : flatC (c :: r) = cellsOf (encC c) ++ flatC r := by simp [flatC, encL, flat]
    rw [e, List.length_append, ih, cellsC_len, List.length_cons]; omega
theorem elemsC : ∀ cs : List Cnd, elems true 5 cs.length (flatC cs) = encL cs
  | [] => rfl
  | .mk k f o n nl fu s ks :: r => by
    have ih := elemsC r
    have e : flatC (.mk k f o n nl fu s ks :: r) = [iv .i64 k, iv .i64 f, iv .i64 o, iv .i64 n, .fslc nl fu s (encL ks)] ++ flatC r := by simp [flatC, encL, encC, flat, cellsOf]
    rw [e]
    simp only [elems, List.length_cons, chunk, List.map_cons, encL, encC] at ih ⊢
    have e1 : List.drop 5 ([iv .i64 k, iv .i64 f, iv .i64 o, iv .i64 n, AV.fslc nl fu s (encL ks)] ++ flatC r) = flatC r := rfl
    have e2 : List.take 5 ([iv .i64 k, iv .i64 f, iv .i64 o, iv .i64 n, AV.fslc nl fu s (encL ks)] ++ flatC r) = [iv .i64 k, iv .i64 f, iv .i64 o, iv .i64 n, AV.fslc nl fu s (encL ks)] := rfl
    rw [e1, e2, ih]; rfl
/-- a row of conditions that grows -/
def rowC (m : Nat) (cs : List Cnd) : AV := if cs = [] then .fslc true true 0 [] else .slc m 0 cs.length 5
def apC (m : Nat) (cs : List Cnd) (nm : Nat) (x : Cnd) (h : AHeap) : AHeap := if cs = [] then h.upd nm (some (.cells (flatC (cs ++ [x])))) else (h.upd m none).upd nm (some (.cells (flatC (cs ++ [x]))))
theorem ap_rowC (m nm : Nat) (cs : List Cnd) (x : Cnd) (h : AHeap) (b c : Bool) (hm : cs ≠ [] → h m = some (.cells (flatC cs))) (hl : cs.length ≤ 1000000) :
    aAppend Tryz.prog nm 22 (rowC m cs) (.fslc b c 5 [encC x]) h = some (.slc nm 0 (cs.length + 1) 5, apC m cs nm x h) := by
  have hx := cellsC_sc x
  have e1 : flat [encC x] = cellsOf (encC x) := by simp [flat]
  unfold rowC apC
  by_cases h0 : cs = []
  · subst h0
    simp [aAppend, eltOf22, szOf24, byOf24, zerOf24, srcCells, cellsOf, AV.scalar, e1, flatC, encL]
    rfl
  · rw [if_neg h0, if_neg h0]
    have hc := hm h0
    have hlen := flatC_len cs
    have h1 : ¬ (cs.length + 1) * 5 ≤ cs.length * 5 := by omega
    simp [aAppend, eltOf22, szOf24, byOf24, zerOf24, srcCells, cellsOf, AV.scalar, flatC_snoc, e1, hc, hlen, h1]
    omega
theorem apC_new (m : Nat) (cs : List Cnd) (nm : Nat) (x : Cnd) (h : AHeap) : apC m cs nm x h nm = some (.cells (flatC (cs ++ [x]))) := by unfold apC; split <;> exact upd_same _ _ _
theorem apC_old (m : Nat) (cs : List Cnd) (nm : Nat) (x : Cnd) (h : AHeap) (y : Nat) (h1 : y ≠ nm) (h2 : cs ≠ [] → y ≠ m) : apC m cs nm x h y = h y := by
  unfold apC; split
  · exact upd_ne _ _ _ _ h1
  · rename_i h0; rw [upd_ne _ _ _ _ h1, upd_ne _ _ _ _ (h2 h0)]
/-- the conditions of orders, by value -/
def condV (l : List Ordr) : AV := if l = [] then .fslc true true 0 [] else .fslc false false 5 (encL (l.map (·.cond)))
theorem conditions60 (nl fu : Bool) (s : Nat) (l : List Ordr) (hnl : l = [] ∨ nl = false ∧ s = 7) (hl : l.length ≤ 1000000) : APure Tryz.prog 60 [.fslc nl fu s (l.map encO)] (condV l) := by
  intro h n
  refine ACalls.pure (ACalls.entry (by kernel_rfl) fun hb _ => calls_of Tryz.func60 rfl (by kernel_rfl) (by simp [Tryz.ntmps60]) ?_)
  replace hnl : Hide _ := hnl
  repeat' (first | (refine ac_seq_h fun K hK => ?_) | (refine ac_region_h fun K hK => ?_; simp (disch := omega) [go_sem, *, Tryz.ntmps60]) | (apply Hide.out hK; clear hK K; try with_reducible dsimp only [thenA]) | (refine ac_block ?_))
  refine ac_loop_wk (fun s' => ∃ (i n' m : Nat) (H : AHeap), n ≤ n' ∧ i ≤ l.length ∧ ((l.take i).map (·.cond) ≠ [] → n ≤ m ∧ m < n' ∧ H m = some (.cells (flatC ((l.take i).map (·.cond))))) ∧ (∀ x, x < n → H x = h x) ∧ s' = ⟨19, [(3, rowC m ((l.take i).map (·.cond))), (6, .fslc nl fu s (l.map encO)), (7, iv .i64 l.length), (8, iv .i64 i)], H, n'⟩)
      (fun s' => l.length - (intAt s' 8).toNat) ?_ ?_
  · have e0 : rowC 0 ((l.take 0).map (·.cond)) = .fslc true true 0 [] := by simp [rowC]
    refine loop_start ?_ (Sub.refl _) ⟨0, _, 0, _, ?_, ?_, fun e => (e rfl).elim, fun _ _ => rfl, rfl⟩
    · rw [e0]; simp [go_sem]
    · omega
    · omega
  · rintro s' ⟨i, n', m, H, hn', hi, hm, hfr, rfl⟩
    have hlt2 : ((l.take i).map (·.cond)).length = i := by rw [List.length_map, List.length_take]; omega
    obtain ⟨cs, hcs⟩ : ∃ cs, cs = (l.take i).map (·.cond) := ⟨_, rfl⟩
    rw [← hcs] at hm hlt2 ⊢
    replace hfr : Hide _ := hfr
    by_cases hlt : i < l.length
    · obtain ⟨⟨nm, rk, k, f, o, nn, nl2, fu2, s2, ks⟩, hx⟩ : ∃ o, l[i] = o := ⟨_, rfl⟩
      have hne : l ≠ [] := fun e => by rw [e] at hlt; simp at hlt
      obtain ⟨rfl, rfl⟩ := hnl.out.resolve_left hne
      have hex : encO l[i] = .agg [sv nm, iv .i64 rk, iv .i64 k, iv .i64 f, iv .i64 o, iv .i64 nn, .fslc nl2 fu2 s2 (encL ks)] := by rw [hx]; rfl
      have hcs2 : (l.take (i + 1)).map (·.cond) = cs ++ [.mk k f o nn nl2 fu2 s2 ks] := by
        rw [List.take_succ_eq_append_getElem hlt, List.map_append, hx, ← hcs]; rfl
      have hap := fun (nm : Nat) (h0 : AHeap) (b c : Bool) (he : cs ≠ [] → h0 m = some (.cells (flatC cs))) => ap_rowC m nm cs (.mk k f o nn nl2 fu2 s2 ks) h0 b c he (by omega)
      simp only [encC] at hap
      replace hx : Hide _ := hx
      replace hcs2 : Hide _ := hcs2
      replace hcs : Hide _ := hcs
      replace hm : Hide _ := hm
      clear hne
      repeat' (first | (refine ac_seq_h fun K hK => ?_) | (refine ac_region_h fun K hK => ?_; simp (disch := omega) [go_sem, *, ilt_true, ile_true]) | (apply Hide.out hK; clear hK K; try with_reducible dsimp only [thenA]) | (apply Hide.out ht; clear ht hf Kt Kf) | (refine ac_block ?_) | (refine ac_skip ?_; simp only [thenA]) | (refine ac_cond_h fun Kt Kf ht hf => ?_; simp (disch := omega) [go_sem, *]; try (refine ⟨fun hc => ?_, fun hc => ?_⟩ <;> try (exfalso; omega))))
      have he : cs ≠ [] → n ≤ m ∧ m < n' ∧ H m = some (.cells (flatC cs)) := hm.out
      rw [hap _ _ _ _ (fun e0 => by obtain ⟨m1, m2, m3⟩ := he e0; simpa (disch := omega) [upd_ne] using m3)]
      clear he hap
      simp (disch := omega) [go_sem]
      repeat' (first | (refine ac_region_h fun K hK => ?_; simp (disch := omega) [go_sem, *, wrap64_id]) | (apply Hide.out hK; clear hK K; try with_reducible dsimp only [thenA]))
      have er : rowC (n' + 1 + 4 + 4) ((l.take (i + 1)).map (·.cond)) = .slc (n' + 1 + 4 + 4) 0 (i + 1) 5 := by rw [hcs2.out, rowC, if_neg (by simp), List.length_append, hlt2]; rfl
      refine round_end ?_ (Sub.refl _) ⟨i + 1, _, n' + 1 + 4 + 4, _, by omega, by omega, fun _ => ⟨by omega, by omega, by rw [hcs2.out]; exact apC_new _ _ _ _ _⟩, fun x hx => ?_, rfl⟩ (by simp [intAt, go_sem]; omega)
      · rw [er]; simp (disch := omega) [go_sem]
      · rw [apC_old _ _ _ _ _ _ (by omega) (fun e0 => by have := (hm.out e0).1; omega)]
        try rw [upd_ne _ _ _ _ (by omega), upd_ne _ _ _ _ (by omega)]
        exact hfr.out x hx
    · have hii : i = l.length := by omega
      rw [hii, List.take_length] at hcs
      replace hcs : Hide _ := hcs
      replace hm : Hide _ := hm
      repeat' (first | (refine ac_seq_h fun K hK => ?_) | (refine ac_region_h fun K hK => ?_; simp (disch := omega) [go_sem, *]) | (apply Hide.out hK; clear hK K; try with_reducible dsimp only [thenA]) | (apply Hide.out hf; clear ht hf Kt Kf) | (clear hK K; apply Hide.out hK; clear hK K; try with_reducible dsimp only [thenA]) | (refine ac_exit ?_; simp only [thenA, blockA, if_true]) | (refine ac_cond_h fun Kt Kf ht hf => ?_; simp (disch := omega) [go_sem, *]; try (refine ⟨fun hc => ?_, fun hc => ?_⟩ <;> try (exfalso; omega))))
      refine ac_ret ?_
      try dsimp only [thenA, blockA]
      refine ⟨by simp, _, (by first | rfl | (simp (disch := omega) [go_sem, upd_ne] <;> rfl)), ?_⟩
      unfold condV
      by_cases h0 : l = []
      · rw [if_pos h0]
        have e0 : cs = [] := by rw [hcs.out, h0]; rfl
        rw [e0]
        exact ret_id ⟨hfr.out, by simp [go_sem, rowC, below, belowL, resVal], rfl, rfl, rfl⟩
      · rw [if_neg h0]
        have h1 : cs ≠ [] := by rw [hcs.out]; simpa using h0
        obtain ⟨m1, m2, m3⟩ := hm.out h1
        have ev : rowC m cs = .slc m 0 cs.length 5 := by rw [rowC, if_neg h1]
        show RetOk _ _ (rowC m cs) _ _
        rw [ev]
        refine ret_freeze true m3 ?_
        have ef : fzT m (flatC cs) true (.slc m 0 cs.length 5) = .fslc false false 5 (encL cs) := by
          simp only [fzT, fz, Nat.zero_add, List.drop_zero]
          rw [if_pos ⟨trivial, by rw [flatC_len]; exact Nat.le_refl _, by simp⟩, elemsC]
        rw [ef]
        refine ret_id ⟨fun x hx => ?_, ?_, by rw [hcs.out], rfl, rfl⟩
        · rw [upd_ne _ _ _ _ (by omega)]; exact hfr.out x hx
        · simp [below, belowK]
end Go.AM

namespace Go.AM
open Go.Proofs
@[go_sem] theorem lay103 : lay Tryz.prog 103 = some (1, false) := by kernel_rfl
@[go_sem] theorem szOf103 : szOf Tryz.prog 103 = some 1 := by kernel_rfl
@[go_sem] theorem byOf103 : byOf Tryz.prog 103 = some 24 := by kernel_rfl
@[go_sem] theorem zerOf103 : zerOf Tryz.prog 103 = some (.fslc true true 0 []) := by kernel_rfl
@[go_sem] theorem eltOf103 : eltOf Tryz.prog 103 = some 4 := by kernel_rfl
@[go_sem] theorem kdOf103 : kdOf Tryz.prog 103 = .slice 4 := by kernel_rfl
@[go_sem] theorem lenK103 : lenK Tryz.prog 103 = .slice := by kernel_rfl
@[go_sem] theorem typed103 : (@Vars.typed Go.Proofs.SAN.vars).contains 103 = false := by kernel_rfl
@[go_sem] theorem nt103 : ¬ (103 ∈ (@Vars.typed Go.Proofs.SAN.vars)) := by decide
@[go_sem] theorem lay53 : lay Tryz.prog 53 = some (2, true) := by kernel_rfl
@[go_sem] theorem szOf53 : szOf Tryz.prog 53 = some 2 := by kernel_rfl
@[go_sem] theorem byOf53 : byOf Tryz.prog 53 = some 32 := by kernel_rfl
@[go_sem] theorem zerOf53 : zerOf Tryz.prog 53 = some (.agg [.fslc true true 0 [], iv .i64 0]) := by kernel_rfl
@[go_sem] theorem fldOf53_0 : fldOf Tryz.prog 53 0 = some (0, 1) := by kernel_rfl
@[go_sem] theorem fldOf53_1 : fldOf Tryz.prog 53 1 = some (1, 1) := by kernel_rfl
@[go_sem] theorem sizesOk53 : sizesOk Tryz.prog 53 = true := by kernel_rfl
@[go_sem] theorem typed53 : (@Vars.typed Go.Proofs.SAN.vars).contains 53 = false := by kernel_rfl
@[go_sem] theorem nt53 : ¬ (53 ∈ (@Vars.typed Go.Proofs.SAN.vars)) := by decide
@[go_sem] theorem lay115 : lay Tryz.prog 115 = some (1, false) := by kernel_rfl
@[go_sem] theorem szOf115 : szOf Tryz.prog 115 = some 1 := by kernel_rfl
@[go_sem] theorem byOf115 : byOf Tryz.prog 115 = some 24 := by kernel_rfl
@[go_sem] theorem zerOf115 : zerOf Tryz.prog 115 = some (.fslc true true 0 []) := by kernel_rfl
@[go_sem] theorem eltOf115 : eltOf Tryz.prog 115 = some 42 := by kernel_rfl
@[go_sem] theorem kdOf115 : kdOf Tryz.prog 115 = .slice 42 := by kernel_rfl
@[go_sem] theorem lenK115 : lenK Tryz.prog 115 = .slice := by kernel_rfl
@[go_sem] theorem typed115 : (@Vars.typed Go.Proofs.SAN.vars).contains 115 = false := by kernel_rfl
@[go_sem] theorem nt115 : ¬ (115 ∈ (@Vars.typed Go.Proofs.SAN.vars)) := by decide
end Go.AM

namespace Go.AM
open Go.Proofs Cw
set_option maxRecDepth 10000
set_option maxHeartbeats 4000000
/-- among facts that were looked at, are some for which this order is given -/
def hit (l : List Ordr) (done : List (List Int)) (i : Int) : Bool := done.any fun xs => decide (giv l (toFs xs) = i)
def hits (l : List Ordr) (done : List (List Int)) (off len : Nat) : List AV := (List.range len).map fun i : Nat => bv (hit l done ((i : Int) - off))
theorem hits_nil (l : List Ordr) (off len : Nat) : hits l [] off len = List.replicate len (bv false) := by
  apply List.ext_getElem
  · simp [hits]
  · intro i h1 h2; simp [hits, hit]
theorem hits_len (l : List Ordr) (done : List (List Int)) (off len : Nat) : (hits l done off len).length = len := by simp [hits]
theorem hits_get (l : List Ordr) (done : List (List Int)) (off len k : Nat) (hk : k < len) : (hits l done off len)[k]? = some (bv (hit l done ((k : Int) - off))) := by
  simp [hits, hk]
theorem hit_snoc (l : List Ordr) (done : List (List Int)) (xs : List Int) (i : Int) : hit l (done ++ [xs]) i = (hit l done i || decide (giv l (toFs xs) = i)) := by
  simp [hit]
theorem splice_one : ∀ (c : List AV) (k : Nat) (v : AV), k < c.length → splice c k [v] = c.set k v
  | [], k, v, h => by simp at h
  | x :: r, 0, v, h => by simp [splice]
  | x :: r, k + 1, v, h => by
    have ih := splice_one r k v (by simpa using h)
    simp [splice] at ih ⊢
    exact ih
theorem hits_set (l : List Ordr) (done : List (List Int)) (off len k : Nat) (xs : List Int) (hk : k < len) (hg : giv l (toFs xs) = (k : Int) - off) : splice (hits l done off len) k [bv true] = hits l (done ++ [xs]) off len := by
  rw [splice_one _ _ _ (by rw [hits_len]; exact hk)]
  apply List.ext_getElem
  · simp [hits]
  · intro i h1 h2
    simp only [hits, List.getElem_set, List.getElem_map, List.getElem_range, hit_snoc]
    by_cases e : k = i
    · subst e; rw [if_pos rfl, hg]; simp
    · rw [if_neg e]
      have : ¬ giv l (toFs xs) = (i : Int) - off := by omega
      simp [this]
theorem hits_skip (l : List Ordr) (done : List (List Int)) (off len : Nat) (xs : List Int) (hg : giv l (toFs xs) < -(off : Int)) : hits l (done ++ [xs]) off len = hits l done off len := by
  apply List.ext_getElem
  · simp [hits]
  · intro i h1 h2
    simp only [hits, List.getElem_map, List.getElem_range, hit_snoc]
    have : ¬ giv l (toFs xs) = (i : Int) - off := by omega
    simp [this]
/-- which orders are not used -/
def unusU (u : Nat → Bool) (i : Nat) : List Int := List.map (fun k : Nat => (k : Int)) ((List.range i).filter fun k => !u k)
theorem unusU_succ (u : Nat → Bool) (i : Nat) : unusU u (i + 1) = if u i then unusU u i else unusU u i ++ [(i : Int)] := by
  unfold unusU
  rw [List.range_succ, List.filter_append]
  cases h : u i <;> simp [h]
theorem unusU_len (u : Nat → Bool) (i : Nat) : (unusU u i).length ≤ i := by
  unfold unusU; rw [List.length_map]; exact Nat.le_trans (List.length_filter_le _ _) (by simp)
theorem clo62 (nl fu : Bool) (s : Nat) (l : List Ordr) (hnl : l = [] ∨ nl = false ∧ s = 7) (hw : okO l) (hl : l.length ≤ 1000000) (n0 pl pu m : Nat) (h0 : AHeap) (ll : pl < n0) (lu : pu < n0) (lm : m < n0) (d1 : m ≠ pl) (d2 : m ≠ pu)
    (ho : h0 pl = some (.cells [.fslc nl fu s (l.map encO)])) (hu : h0 pu = some (.cells [.slc m 0 l.length 1])) :
    Asks n0 (fun done h => h m = some (.cells (hits l done 0 l.length)) ∧ ∀ x, x < n0 → x ≠ m → h x = h0 x) (fun _ => false) 62 [.ptr pl 0, .ptr pu 0] := by
  intro done xs h n hxs hn hd
  obtain ⟨x0, x1, x2, x3, x4, rfl⟩ : ∃ a b c d e, xs = [a, b, c, d, e] := by
    match xs, hxs with
    | [a, b, c, d, e], _ => exact ⟨a, b, c, d, e, rfl⟩
  have k1 := decide56 nl fu s l hnl hw hl ⟨x0, x1, x2, x3, x4⟩
  have hg := giv_range ⟨x0, x1, x2, x3, x4⟩ l 0 (-1) 0 (by omega) (by omega)
  rw [← hd.2 pl ll (Ne.symm d1)] at ho
  rw [← hd.2 pu lu (Ne.symm d2)] at hu
  have hm := hd.1
  have hlen := hits_len l done 0 l.length
  have hgg : giv l (toFs [x0, x1, x2, x3, x4]) = giv l ⟨x0, x1, x2, x3, x4⟩ := rfl
  have hst := hits_set l done 0 l.length (giv l (toFs [x0, x1, x2, x3, x4])).toNat [x0, x1, x2, x3, x4]
  have hsk := hits_skip l done 0 l.length [x0, x1, x2, x3, x4]
  rw [hgg] at hst hsk
  replace hg : -1 ≤ giv l ⟨x0, x1, x2, x3, x4⟩ ∧ giv l ⟨x0, x1, x2, x3, x4⟩ < 0 + (l.length : Int) := hg
  refine ACalls.entry (by kernel_rfl) fun hb _ => calls_of Tryz.func62 rfl (by kernel_rfl) (by simp [Tryz.ntmps62]) ?_
  replace hd : Hide _ := hd
  replace hw : Hide _ := hw
  clear hgg
  generalize giv l ⟨x0, x1, x2, x3, x4⟩ = g at *
  generalize hits l done 0 l.length = U at *
  simp only [List.map_cons, List.map_nil]
  by_cases hg0 : 0 ≤ g
  · obtain ⟨k, rfl⟩ : ∃ k : Nat, g = k := ⟨g.toNat, by omega⟩
    have hst2 := hst (by omega) (by omega)
    have hst3 : U.take k ++ AV.c (.bool true) :: U.drop (k + 1) = hits l (done ++ [[x0, x1, x2, x3, x4]]) 0 l.length := by simpa [splice] using hst2
    replace hst2 : Hide _ := trivial
    replace hst3 : Hide _ := hst3
    replace hst : Hide _ := trivial
    replace hsk : Hide _ := trivial
    repeat' (first | (refine ac_seq_h fun K hK => ?_) | (refine ac_region_h fun K hK => ?_; simp (disch := omega) [go_sem, *, upd_ne, stepK_if, ilt_true, Tryz.ntmps62 ]) | (apply Hide.out hK; clear hK K; try with_reducible dsimp only [thenA]) | (apply Hide.out ht; clear ht hf Kt Kf) | (with_reducible refine APure.gcall (k1) ?_; try simp (disch := omega) [go_sem, * ]) | (refine ac_cond_h fun Kt Kf ht hf => ?_; simp (disch := omega) [go_sem, * ]; try (refine ⟨fun hc => ?_, fun hc => ?_⟩ <;> try (exfalso; omega))))
    refine ac_ret ?_
    try dsimp only [thenA, blockA]
    refine ⟨by simp, _, (by first | rfl | (simp (disch := omega) [go_sem, upd_ne] <;> rfl)), ?_⟩
    refine ret_id ⟨rfl, by omega, fun x h1 h2 => by simp (disch := omega) only [upd_ne], ?_, fun x h1 h2 => ?_⟩
    · rw [upd_same, hst3.out]
    · rw [upd_ne _ _ _ _ h2, upd_ne _ _ _ _ (by omega)]; exact hd.out.2 x h1 h2
  · have hsk2 := hsk (by omega)
    have e1 : g = -1 := by omega
    subst e1
    replace hst : Hide _ := trivial
    replace hsk : Hide _ := trivial
    repeat' (first | (refine ac_seq_h fun K hK => ?_) | (refine ac_region_h fun K hK => ?_; simp (disch := omega) [go_sem, *, upd_ne, ile_false, Tryz.ntmps62 ]) | (apply Hide.out hK; clear hK K; try with_reducible dsimp only [thenA]) | (apply Hide.out hf; clear ht hf Kt Kf) | (with_reducible refine APure.gcall (k1) ?_; try simp (disch := omega) [go_sem, * ]) | (refine ac_skip ?_; simp only [thenA]) | (refine ac_cond_h fun Kt Kf ht hf => ?_; simp (disch := omega) [go_sem, * ]; try (refine ⟨fun hc => ?_, fun hc => ?_⟩ <;> try (exfalso; omega))))
    refine ac_ret ?_
    try dsimp only [thenA, blockA]
    refine ⟨by simp, _, (by first | rfl | (simp (disch := omega) [go_sem, upd_ne] <;> rfl)), ?_⟩
    refine ret_id ⟨rfl, by omega, fun x h1 h2 => by simp (disch := omega) only [upd_ne], ?_, fun x h1 h2 => ?_⟩
    · rw [upd_ne _ _ _ _ (by omega), hm, hsk2]
    · rw [upd_ne _ _ _ _ (by omega)]; exact hd.out.2 x h1 h2
end Go.AM

namespace Go.AM
open Go.Proofs Cw
set_option maxRecDepth 10000
set_option maxHeartbeats 4000000
def condsO (l : List Ordr) : List Cnd := l.map (·.cond)
/-- what Unused returns -/
def unO (l : List Ordr) : List Int × Int :=
  if chk l ≠ 0 then ([], chk l) else if fewP (condsO l) then (unusU (fun k => hit l (tup (candsP (condsO l))) k) l.length, 0) else ([], 80)
theorem totL_le : ∀ (l : List Ordr) (b : Nat), (∀ o ∈ l, tot o.cond ≤ b) → totL (condsO l) ≤ l.length * b
  | [], b, _ => by simp [condsO, totL]
  | o :: r, b, h => by
    have ih := totL_le r b fun x hx => h x (by simp [hx])
    have h1 := h o (by simp)
    simp only [condsO, List.map_cons, totL, List.length_cons, Nat.add_mul] at ih ⊢
    omega
theorem wfL_of : ∀ (l : List Ordr), wfO l → wfL (condsO l)
  | [], _ => trivial
  | o :: r, h => ⟨h o (by simp), wfL_of r fun x hx => h x (by simp [hx])⟩
theorem okL_of : ∀ (l : List Ordr), okO l → okL (condsO l) = true
  | [], _ => rfl
  | o :: r, h => by
    simp only [condsO, List.map_cons, okL, Bool.and_eq_true]
    exact ⟨(h o (by simp)).2, okL_of r fun x hx => h x (by simp [hx])⟩
theorem all_60 {l : List Ordr} (h : l.all ordOk = true) : ∀ o ∈ l, tot o.cond ≤ 60 := fun o ho => by
  have := List.all_eq_true.1 h o ho
  simp only [ordOk, Cw.formed, Bool.and_eq_true, decide_eq_true_eq] at this
  exact this.2.1.2
theorem few_sm {l : List Ordr} (h : fewO l = true) : smO l := fun o ho => by
  simp only [fewO, Bool.and_eq_true, List.all_eq_true] at h
  have := h.1 o ho
  simp only [lit, Bool.and_eq_true, decide_eq_true_eq] at this
  omega
theorem few_len {l : List Ordr} (h : fewO l = true) : l.length ≤ 6 ∨ 30 < l.length ∧ l.length ≤ 50 := by
  simp only [fewO, Bool.and_eq_true, Bool.or_eq_true, decide_eq_true_eq] at h
  exact h.2
theorem choicesO (l : List Ordr) (hw : okO l) (ht : totL (condsO l) ≤ 1000) (h : AHeap) (n : Nat) :
    ACalls Tryz.prog 59 [condV l] h n fun r h' n' => ChPost (condsO l) r ∧ h' = h ∧ n' = n := by
  unfold condV
  by_cases h0 : l = []
  · subst h0; rw [if_pos rfl]
    exact choices_spec [] true true 0 (.inl rfl) trivial rfl (by simp [totL]) h n
  · rw [if_neg h0]
    exact choices_spec (condsO l) false false 5 (.inr ⟨rfl, rfl⟩) (wfL_of l fun o ho => (hw o ho).1) (okL_of l hw) ht h n
theorem first62 (nl fu : Bool) (s : Nat) (l : List Ordr) (hnl : l = [] ∨ nl = false ∧ s = 7) (hw : okO l) (hl : l.length ≤ 1000000) (A B C D E : List Int) (lA : A.length ≤ 100000) (lB : B.length ≤ 100000) (lC : C.length ≤ 100000) (lD : D.length ≤ 100000) (lE : E.length ≤ 100000)
    (H : AHeap) (nn pl pu m : Nat) (ll : pl < nn) (lu : pu < nn) (lm : m < nn) (d1 : m ≠ pl) (d2 : m ≠ pu) (ho : H pl = some (.cells [.fslc nl fu s (l.map encO)])) (hu : H pu = some (.cells [.slc m 0 l.length 1])) (hm : H m = some (.cells (List.replicate l.length (bv false)))) :
    ACalls Tryz.prog 61 [.agg [encI A, encI B, encI C, encI D, encI E], .func (.func 62) [] [.ptr pl 0, .ptr pu 0]] H nn fun r h' n' => nn ≤ n' ∧ r = .tup [.agg [iv .i64 0, iv .i64 0, iv .i64 0, iv .i64 0, iv .i64 0], bv false] ∧ h' m = some (.cells (hits l (tup [A, B, C, D, E]) 0 l.length)) ∧ ∀ x, x < nn → x ≠ m → h' x = H x := by
  refine (first_spec A B C D E 62 _ lA lB lC lD lE _ (fun _ => false) nn H (fun d h1 h2 hx hd => ⟨by rw [hx _ lm]; exact hd.1, fun x h3 h4 => by rw [hx x h3]; exact hd.2 x h3 h4⟩) (clo62 nl fu s l hnl hw hl nn pl pu m H ll lu lm d1 d2 ho hu) ⟨by rw [hits_nil]; exact hm, fun _ _ _ => rfl⟩).mono fun r h2 n2 hp => ?_
  obtain ⟨h1, h2⟩ := hp
  rw [show (tup [A, B, C, D, E]).find? (fun _ => false) = none by simp] at h2
  exact ⟨h1, h2.1, h2.2.1, h2.2.2⟩
theorem Unused24 (nl fu : Bool) (s : Nat) (l : List Ordr) (hnl : l = [] ∨ nl = false ∧ s = 7) (hw : wfO l) (hf : fewO l = true) : APure Tryz.prog 24 [.fslc nl fu s (l.map encO)] (.tup [rowF (unO l).1, iv .i64 (unO l).2]) := by
  intro h n
  have hs := few_sm hf
  have hl0 := few_len hf
  have hl : l.length ≤ 1000000 := by omega
  have k1 := check55 nl fu s l hnl hw hs hl
  refine ACalls.pure (ACalls.entry (by kernel_rfl) fun hb _ => calls_of Tryz.func24 rfl (by kernel_rfl) (by simp [Tryz.ntmps24]) ?_)
  obtain ⟨⟨r0, r1⟩, hR⟩ : ∃ r, r = unO l := ⟨_, rfl⟩
  rw [← hR]
  unfold unO at hR
  by_cases hc : chk l = 0
  · rw [if_neg (by simpa using hc)] at hR
    rw [hc] at k1
    obtain ⟨ha, hl30⟩ := chk_zero hc
    have hok := all_okO hw ha
    have ht : totL (condsO l) ≤ 360 := by have := totL_le l 60 (all_60 ha); omega
    have k2 := conditions60 nl fu s l hnl hl
    have k3 := choicesO l hok (by omega)
    unfold ChPost at k3
    by_cases hfw : fewP (condsO l) = true
    · rw [if_pos hfw] at hR
      rw [hfw] at k3
      simp only [if_true] at k3
      simp only [Prod.mk.injEq] at hR
      obtain ⟨hr0, rfl⟩ := hR
      obtain ⟨A, hA⟩ : ∃ A, Hide (A = numsP 0 (condsO l)) := ⟨_, rfl⟩
      obtain ⟨B, hB⟩ : ∃ A, Hide (A = numsP 1 (condsO l)) := ⟨_, rfl⟩
      obtain ⟨C, hC⟩ : ∃ A, Hide (A = numsP 2 (condsO l)) := ⟨_, rfl⟩
      obtain ⟨D, hD⟩ : ∃ A, Hide (A = numsP 3 (condsO l)) := ⟨_, rfl⟩
      obtain ⟨E, hE⟩ : ∃ A, Hide (A = numsP 4 (condsO l)) := ⟨_, rfl⟩
      have lA : A.length ≤ 1000 := by have := length_numsP 0 (condsO l); rw [hA.out]; omega
      have lB : B.length ≤ 1000 := by have := length_numsP 1 (condsO l); rw [hB.out]; omega
      have lC : C.length ≤ 1000 := by have := length_numsP 2 (condsO l); rw [hC.out]; omega
      have lD : D.length ≤ 1000 := by have := length_numsP 3 (condsO l); rw [hD.out]; omega
      have lE : E.length ≤ 1000 := by have := length_numsP 4 (condsO l); rw [hE.out]; omega
      rw [← hA.out, ← hB.out, ← hC.out, ← hD.out, ← hE.out] at k3
      have hcr : candsP (condsO l) = [A, B, C, D, E] := by rw [candsP, ← hA.out, ← hB.out, ← hC.out, ← hD.out, ← hE.out]
      rw [hcr] at hr0
      replace k3 : APure Tryz.prog 59 [condV l] (.tup [.agg [encI A, encI B, encI C, encI D, encI E], iv .i64 0]) := k3
      have hclo := first62 nl fu s l hnl hok hl
      have hhl := hits_len l (tup [A, B, C, D, E]) 0 l.length
      have hget := hits_get l (tup [A, B, C, D, E]) 0 l.length
      replace hclo : Hide _ := hclo
      replace hr0 : Hide _ := hr0
      replace hA : Hide _ := trivial
      replace hB : Hide _ := trivial
      replace hC : Hide _ := trivial
      replace hD : Hide _ := trivial
      replace hE : Hide _ := trivial
      replace hget : Hide _ := hget
      clear hcr hfw ht ha hok hc hs hf hw
      have hl50 : l.length ≤ 50 := by omega
      clear hl0
      repeat' (first | (refine ac_seq_h fun K hK => ?_) | (refine ac_region_h fun K hK => ?_; simp (disch := omega) [go_sem, *, upd_ne, mk3_true, Tryz.ntmps24 ]) | (apply Hide.out hK; clear hK K; try with_reducible dsimp only [thenA]) | (apply Hide.out hf; clear ht hf Kt Kf) | (with_reducible refine APure.gcall (k1) ?_; try simp (disch := omega) [go_sem, * ]) | (with_reducible refine APure.gcall (k2) ?_; try simp (disch := omega) [go_sem, * ]) | (with_reducible refine APure.gcall (k3) ?_; try simp (disch := omega) [go_sem, * ]) | (refine ac_skip ?_; simp only [thenA]) | (refine ac_cond_h fun Kt Kf ht hf => ?_; simp (disch := omega) [go_sem, * ]; try (refine ⟨fun hc => ?_, fun hc => ?_⟩ <;> try (exfalso; omega))))
      refine .inl ((hclo.out A B C D E (by omega) (by omega) (by omega) (by omega) (by omega) _ _ _ _ (n + 3 + 4 + 2 + 9 + 2 + 2) (by omega) (by omega) (by omega) (by omega) (by omega) (by simp (disch := omega) only [upd_ne, upd_same]) (by simp (disch := omega) only [upd_same]) (by simp (disch := omega) only [upd_ne, upd_same])).mono fun r h2 n2 hp => ?_)
      obtain ⟨hn2, rfl, hM, hfr2⟩ := hp
      have o7 := hfr2 (n + 3 + 4 + 2 + 9 + 2 + 3) (by omega) (by omega)
      simp (disch := omega) only [upd_same] at o7
      have hfr : ∀ x, x < n → h2 x = h x := fun x hx => by rw [hfr2 x (by omega) (by omega)]; simp (disch := omega) only [upd_ne]
      replace hfr2 : Hide _ := trivial
      obtain ⟨u, hu⟩ : ∃ u : Nat → Bool, Hide (u = fun k : Nat => hit l (tup [A, B, C, D, E]) k) := ⟨_, rfl⟩
      have hget2 : ∀ k, k < l.length → (hits l (tup [A, B, C, D, E]) 0 l.length)[k]? = some (bv (u k)) := fun k hk => by have := hget.out k hk; rw [hu.out]; simpa using this
      have hr2 : r0 = unusU u l.length := by rw [hr0.out, hu.out]
      replace hget : Hide _ := trivial
      replace hr0 : Hide _ := trivial
      replace hclo : Hide _ := trivial
      replace hu : Hide _ := trivial
      obtain ⟨U, hU⟩ : ∃ U, U = hits l (tup [A, B, C, D, E]) 0 l.length := ⟨_, rfl⟩
      rw [← hU] at hM hget2 hhl
      replace hU : Hide _ := trivial
      replace hfr : Hide _ := hfr
      replace hr2 : Hide _ := hr2
      replace hget2 : Hide _ := hget2
      repeat' (first | (refine ac_seq_h fun K hK => ?_) | (refine ac_region_h fun K hK => ?_; simp (disch := omega) [go_sem, *]) | (apply Hide.out hK; clear hK K; try with_reducible dsimp only [thenA]) | (refine ac_block ?_))
      refine ac_loop_wk (fun s' => ∃ (i n' m : Nat) (H : AHeap), n2 ≤ n' ∧ i ≤ l.length ∧ (unusU u i ≠ [] → n2 ≤ m ∧ m < n' ∧ H m = some (.cells ((unusU u i).map (iv .i64)))) ∧ (∀ x, x < n2 → H x = h2 x) ∧ s' = ⟨47, [(8, rowV (fun _ => m) (fun _ => unusU u i) 0), (32, .slc (n + 3 + 4 + 2 + 9 + 2 + 2) 0 l.length 1), (33, iv .i64 l.length), (34, iv .i64 i)], H, n'⟩)
        (fun s' => l.length - (intAt s' 34).toNat) ?_ ?_
      · have e0 : rowV (fun _ => 0) (fun _ => unusU u 0) 0 = .fslc true true 0 [] := rfl
        refine loop_start ?_ (Sub.refl _) ⟨0, _, 0, _, ?_, ?_, fun e => (e rfl).elim, fun _ _ => rfl, rfl⟩
        · rw [e0]; simp [go_sem]
        · omega
        · omega
      · rintro s' ⟨i, n', m, H, hn', hi, hm, hfx, rfl⟩
        obtain ⟨xs, hxs⟩ : ∃ xs, xs = unusU u i := ⟨_, rfl⟩
        have hrl := unusU_len u i
        have hMM : H (n + 3 + 4 + 2 + 9 + 2 + 2) = some (.cells U) := by rw [hfx _ (by omega)]; exact hM
        rw [← hxs] at hm hrl ⊢
        replace hfx : Hide _ := hfx
        have hsc := rowV_sc (fun _ => m) (fun _ => xs) 0
        by_cases hlt : i < l.length
        · obtain ⟨hgp, hg⟩ := List.getElem?_eq_some_iff.1 (hget2.out i hlt)
          have hsu := unusU_succ u i
          rw [← hxs] at hsu
          cases hui : u i with
          | true =>
            rw [hui] at hg hsu
            simp only [if_true] at hsu
            replace hm : Hide _ := hm
            replace hsu : Hide _ := hsu
            replace hxs : Hide _ := hxs
            repeat' (first | (refine ac_seq_h fun K hK => ?_) | (refine ac_region_h fun K hK => ?_; simp (disch := omega) [go_sem, *, wrap64_id, ilt_true, ile_true]) | (apply Hide.out hK; clear hK K; try with_reducible dsimp only [thenA]) | (apply Hide.out ht; clear ht hf Kt Kf) | (apply Hide.out hf; clear ht hf Kt Kf) | (refine ac_block ?_) | (refine ac_skip ?_; simp only [thenA, blockA]) | (refine ac_cond_h fun Kt Kf ht hf => ?_; simp (disch := omega) [go_sem, *]; try (refine ⟨fun hc => ?_, fun hc => ?_⟩ <;> try (exfalso; omega))))
            refine round_end ?_ (Sub.refl _) ⟨i + 1, _, m, _, by omega, by omega, ?_, hfx.out, rfl⟩ (by simp [intAt, go_sem]; omega)
            · rw [hsu.out]; simp (disch := omega) [go_sem]
            · intro e; rw [hsu.out] at e ⊢; obtain ⟨e1, e2, e3⟩ := hm.out e; exact ⟨e1, by omega, e3⟩
          | false =>
            rw [hui] at hg hsu
            simp only [Bool.false_eq_true, if_false] at hsu
            have hap := fun (nm : Nat) (h0 : AHeap) (b c : Bool) (he : xs ≠ [] → h0 m = some (.cells (xs.map (iv .i64)))) => ap_row (fun _ => xs) (fun _ => m) 0 h0 nm b c i he (by show xs.length ≤ _; omega)
            replace hm : Hide _ := hm
            replace hsu : Hide _ := hsu
            replace hxs : Hide _ := hxs
            repeat' (first | (refine ac_seq_h fun K hK => ?_) | (refine ac_region_h fun K hK => ?_; simp (disch := omega) [go_sem, *, ilt_true, ile_true]) | (apply Hide.out hK; clear hK K; try with_reducible dsimp only [thenA]) | (apply Hide.out ht; clear ht hf Kt Kf) | (refine ac_block ?_) | (refine ac_skip ?_; simp only [thenA]) | (refine ac_cond_h fun Kt Kf ht hf => ?_; simp (disch := omega) [go_sem, *]; try (refine ⟨fun hc => ?_, fun hc => ?_⟩ <;> try (exfalso; omega))))
            rw [hap _ _ _ _ (fun e0 => (hm.out e0).2.2)]
            clear hap
            simp (disch := omega) [go_sem]
            repeat' (first | (refine ac_region_h fun K hK => ?_; simp (disch := omega) [go_sem, *, wrap64_id]) | (apply Hide.out hK; clear hK K; try with_reducible dsimp only [thenA]))
            have er : ∀ k, rowV (fun _ => k) (fun _ => unusU u (i + 1)) 0 = .slc k 0 (xs.length + 1) 1 := fun k => by rw [hsu.out]; simp [rowV]
            refine round_end ?_ (Sub.refl _) ⟨i + 1, _, n' + 1 + 5 + 2 + 3, _, by omega, by omega, ?_, fun x hx => ?_, rfl⟩ (by simp [intAt, go_sem]; omega)
            · rw [er]; simp (disch := omega) [go_sem]
            · intro _; exact ⟨by omega, by omega, by rw [hsu.out]; exact apH_new _ _ _ _ _ _⟩
            · rw [apH_old _ _ _ _ _ _ _ (by omega) (fun e0 => by have := (hm.out e0).1; omega)]; exact hfx.out x hx
        · have hii : i = l.length := by omega
          subst hii
          rw [← hr2.out] at hxs
          subst hxs
          replace hm : Hide _ := hm
          repeat' (first | (refine ac_seq_h fun K hK => ?_) | (refine ac_region_h fun K hK => ?_; simp (disch := omega) [go_sem, *]) | (apply Hide.out hK; clear hK K; try with_reducible dsimp only [thenA]) | (apply Hide.out hf; clear ht hf Kt Kf) | (clear hK K; apply Hide.out hK; clear hK K; try with_reducible dsimp only [thenA]) | (refine ac_exit ?_; simp only [thenA, blockA, if_true]) | (refine ac_cond_h fun Kt Kf ht hf => ?_; simp (disch := omega) [go_sem, *]; try (refine ⟨fun hc => ?_, fun hc => ?_⟩ <;> try (exfalso; omega))))
          refine ac_ret ?_
          try dsimp only [thenA, blockA]
          refine ⟨by simp, _, (by first | rfl | (simp (disch := omega) [go_sem, upd_ne] <;> rfl)), ?_⟩
          show RetOk _ _ (.tup [rowV (fun _ => m) (fun _ => xs) 0, iv .i64 0]) _ _
          by_cases h0 : xs = []
          · subst h0
            exact ret_id ⟨fun k hk => by rw [hfx.out k (by omega)]; exact hfr.out k hk, by simp [rowV, below, belowL], rfl, rfl, rfl⟩
          · obtain ⟨m1, m2, m3⟩ := hm.out h0
            have ev : rowV (fun _ => m) (fun _ => xs) 0 = .slc m 0 xs.length 1 := by simp [rowV, h0]
            rw [ev]
            refine ret_freeze false m3 ?_
            have ef : fzT m (xs.map (iv .i64)) false (.tup [.slc m 0 xs.length 1, iv .i64 0]) = .tup [rowF xs, iv .i64 0] := by
              have := elems_ints xs
              simp [fzT, fz, rowF, h0, encI, this]
            rw [ef]
            refine ret_id ⟨fun k hk => ?_, ?_, rfl, rfl, rfl⟩
            · rw [upd_ne _ _ _ _ (by omega), hfx.out k (by omega)]; exact hfr.out k hk
            · have := below_int n xs
              simp [rowF, h0, encI, below, belowL, this]
    · have hfw2 : fewP (condsO l) = false := by simpa using hfw
      rw [if_neg hfw] at hR
      rw [hfw2] at k3
      simp only [Bool.false_eq_true, if_false] at k3
      simp only [Prod.mk.injEq] at hR
      obtain ⟨rfl, rfl⟩ := hR
      clear hw hs hf hc ha hok ht hfw hfw2
      replace k3 : Hide _ := k3
      have er : rowF ([] : List Int) = .fslc true true 0 [] := rfl
      rw [er]
      repeat' (first | (refine ac_seq_h fun K hK => ?_) | (refine ac_region_h fun K hK => ?_; simp (disch := omega) [go_sem, *, Tryz.ntmps24 ]) | (apply Hide.out hK; clear hK K; try with_reducible dsimp only [thenA]) | (apply Hide.out hf; clear ht hf Kt Kf) | (with_reducible refine APure.gcall (k1) ?_; try simp (disch := omega) [go_sem, * ]) | (with_reducible refine APure.gcall (k2) ?_; try simp (disch := omega) [go_sem, * ]) | (refine ac_skip ?_; simp only [thenA]) | (refine ac_cond_h fun Kt Kf ht hf => ?_; simp (disch := omega) [go_sem, * ]; try (refine ⟨fun hc => ?_, fun hc => ?_⟩ <;> try (exfalso; omega))))
      refine .inl ((k3.out _ _).mono fun r h2 n2 hp => ?_)
      obtain ⟨⟨V, rfl⟩, rfl, rfl⟩ := hp
      have s0 : (rowF (V 0)).scalar = true := by unfold rowF; split <;> rfl
      have s1 : (rowF (V 1)).scalar = true := by unfold rowF; split <;> rfl
      have s2 : (rowF (V 2)).scalar = true := by unfold rowF; split <;> rfl
      have s3 : (rowF (V 3)).scalar = true := by unfold rowF; split <;> rfl
      have s4 : (rowF (V 4)).scalar = true := by unfold rowF; split <;> rfl
      generalize rowF (V 0) = v0 at *
      generalize rowF (V 1) = v1 at *
      generalize rowF (V 2) = v2 at *
      generalize rowF (V 3) = v3 at *
      generalize rowF (V 4) = v4 at *
      simp only [AV.scalar] at s0 s1 s2 s3 s4
      repeat' (first | (refine ac_seq_h fun K hK => ?_) | (refine ac_region_h fun K hK => ?_; simp (disch := omega) [go_sem, *]) | (apply Hide.out hK; clear hK K; try with_reducible dsimp only [thenA]) | (apply Hide.out ht; clear ht hf Kt Kf) | (with_reducible show nextK _ _ _ _ _ _ _; simp (disch := omega) [go_sem, *]) | (refine ac_cond_h fun Kt Kf ht hf => ?_; simp (disch := omega) [go_sem, *]; try (refine ⟨fun hc => ?_, fun hc => ?_⟩ <;> try (exfalso; omega))))
      (refine ac_ret ?_; try dsimp only [thenA, blockA]; refine ⟨by simp, _, (by first | rfl | (simp (disch := omega) [go_sem, upd_ne] <;> rfl)), ?_⟩; refine ret_id ⟨fun k hk => (by first | rfl | (repeat rw [upd_ne _ _ _ _ (by omega)])), (by simp [go_sem, below, belowL]), (by simp [go_sem] <;> omega), by simp, by simp⟩)
  · rw [if_pos hc] at hR
    have hne : (chk l != 0) = true := by simpa using hc
    simp only [Prod.mk.injEq] at hR
    obtain ⟨rfl, rfl⟩ := hR
    generalize chk l = e at *
    clear hw hs hf hl0
    generalize List.map encO l = L at *
    have er : rowF ([] : List Int) = .fslc true true 0 [] := rfl
    rw [er]
    repeat' (first | (refine ac_seq_h fun K hK => ?_) | (refine ac_region_h fun K hK => ?_; simp (disch := omega) [go_sem, *, Tryz.ntmps24 ]) | (apply Hide.out hK; clear hK K; try with_reducible dsimp only [thenA]) | (apply Hide.out ht; clear ht hf Kt Kf) | (with_reducible refine APure.gcall (k1) ?_; try simp (disch := omega) [go_sem, * ]) | (refine ac_cond_h fun Kt Kf ht hf => ?_; simp (disch := omega) [go_sem, * ]; try (refine ⟨fun hc => ?_, fun hc => ?_⟩ <;> try (exfalso; omega))))
    (refine ac_ret ?_; try dsimp only [thenA, blockA]; refine ⟨by simp, _, (by first | rfl | (simp (disch := omega) [go_sem, upd_ne] <;> rfl)), ?_⟩; refine ret_id ⟨fun k hk => (by first | rfl | (repeat rw [upd_ne _ _ _ _ (by omega)])), (by simp [go_sem, below, belowL]), (by simp [go_sem] <;> omega), by simp, by simp⟩)
end Go.AM
