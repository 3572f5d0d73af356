/- Orders: the unused ones, by the specification; names of given orders. Conditions: as each theorem says. -/
import Derived.Test.YtbpbgiedemkciaaGreatDoorEe
namespace Go.AM
open Go.Proofs Cw
set_option maxRecDepth 10000
set_option maxHeartbeats 4000000
theorem numbersO (l : List Ordr) (hw : okO l) (ht : totL (ze l) ≤ 1000) :
   APure Tryz.prog 63 [condV l] (.tup [encN (numsP 0 (ze l)) (numsP 1 (ze l)) (numsP 2 (ze l)) (numsP 3 (ze l)) (numsP 4 (ze l)), bv (fewP (ze l))]) := by
 have hok := okL_of l hw
 have e : ∀ nl fu s, (ze l = [] ∨ nl = false ∧ s = 5) → APure Tryz.prog 63 [.fslc nl fu s (encL (ze l))] (.tup [encN (numsP 0 (ze l)) (numsP 1 (ze l)) (numsP 2 (ze l)) (numsP 3 (ze l)) (numsP 4 (ze l)), bv (fewP (ze l))]) := fun nl fu s hh => by
   have k := numbers_spec (ze l) nl fu s hh (wfL_of l fun o ho => (hw o ho).1) hok ht
   rw [few_same _ hok, nums_same 0 _ hok, nums_same 1 _ hok, nums_same 2 _ hok, nums_same 3 _ hok, nums_same 4 _ hok] at k
   exact k
 unfold condV
 by_cases h0 : l = []
 · subst h0; rw [if_pos rfl]; exact e true true 0 (.inl rfl)
 · rw [if_neg h0]; exact e false false 5 (.inr ⟨rfl, rfl⟩)
def leftT (t : Nat) (L : List (List Int)) (k : Nat) (s : St) : Nat :=
 match get s.s t, s.h k with
 | .c (.bool true), some (.cells [.c (.int _ a), .c (.int _ b), .c (.int _ c), .c (.int _ d), .c (.int _ e)]) => (rest L [a.toNat, b.toNat, c.toNat, d.toNat, e.toNat]).length
 | _, _ => 0
theorem rUnused25 (nl fu : Bool) (s : Nat) (l : List Ordr) (hnl : l = [] ∨ nl = false ∧ s = 7) (hw : wfO l) (hf : fewO l = true) : APure Tryz.prog 25 [.fslc nl fu s (l.map encO)] (.agg [rowF (unO l).1, iv .i64 (unO l).2]) := by
 intro h n
 have hs := few_sm hf
 have hl0 := few_len hf
 have hl : l.length ≤ 1000000 := by omega
 have k1 := check57 nl fu s l hnl hw hs hl
 refine ACalls.pure (ACalls.entry (by kernel_rfl) fun hb _ => zO Tryz.func25 rfl (by kernel_rfl) (by simp [Tryz.ntmps25]) ?_)
 obtain ⟨⟨r0, r1⟩, hR⟩ : ∃ r, r = unO l := ⟨_, rfl⟩
 rw [← hR]
 unfold unO at hR
 by_cases hc : chk l = 0
 · rw [if_neg (by simpa using hc)] at hR
   rw [hc] at k1
   obtain ⟨ha, hl30⟩ := chk_zero hc
   have hok := all_okO hw ha
   have ht : totL (ze l) ≤ 360 := by have := totL_le l 60 (all_60 ha); omega
   have k2 := whens64 nl fu s l hnl hl
   have k3 := numbersO l hok (by omega)
   by_cases hfw : fewP (ze l) = true
   · rw [if_pos hfw] at hR
     rw [hfw] at k3
     simp only [Prod.mk.injEq] at hR
     obtain ⟨hr0, rfl⟩ := hR
     obtain ⟨A, hA⟩ : ∃ A, Hide (A = numsP 0 (ze l)) := ⟨_, rfl⟩
     obtain ⟨B, hB⟩ : ∃ A, Hide (A = numsP 1 (ze l)) := ⟨_, rfl⟩
     obtain ⟨C, hC⟩ : ∃ A, Hide (A = numsP 2 (ze l)) := ⟨_, rfl⟩
     obtain ⟨D, hD⟩ : ∃ A, Hide (A = numsP 3 (ze l)) := ⟨_, rfl⟩
     obtain ⟨E, hE⟩ : ∃ A, Hide (A = numsP 4 (ze l)) := ⟨_, rfl⟩
     have lA : 0 < A.length ∧ A.length ≤ 1000 := by have := zZ 0 (ze l); rw [hA.out]; exact ⟨zY _ _, by omega⟩
     have lB : 0 < B.length ∧ B.length ≤ 1000 := by have := zZ 1 (ze l); rw [hB.out]; exact ⟨zY _ _, by omega⟩
     have lC : 0 < C.length ∧ C.length ≤ 1000 := by have := zZ 2 (ze l); rw [hC.out]; exact ⟨zY _ _, by omega⟩
     have lD : 0 < D.length ∧ D.length ≤ 1000 := by have := zZ 3 (ze l); rw [hD.out]; exact ⟨zY _ _, by omega⟩
     have lE : 0 < E.length ∧ E.length ≤ 1000 := by have := zZ 4 (ze l); rw [hE.out]; exact ⟨zY _ _, by omega⟩
     rw [← hA.out, ← hB.out, ← hC.out, ← hD.out, ← hE.out] at k3
     have hcr : candsP (ze l) = [A, B, C, D, E] := by rw [candsP, ← hA.out, ← hB.out, ← hC.out, ← hD.out, ← hE.out]
     rw [hcr] at hr0
     have hpos : ∀ l ∈ [A, B, C, D, E], 0 < l.length := by
       intro l hl
       simp only [List.mem_cons, List.not_mem_nil, or_false] at hl
       rcases hl with rfl | rfl | rfl | rfl | rfl <;> omega
     have k4 := fun fs => given58 nl fu s l hnl hok hl fs
     have hgr := fun fs => giv_range fs l 0 (-1) 0 (by omega) (by omega)
     have hnil := hits_nil l 1 (l.length + 1)
     have hhl := fun done => hits_len l done 1 (l.length + 1)
     have hget := fun done => hits_get l done 1 (l.length + 1)
     have hset := fun done => hits_set l done 1 (l.length + 1)
     have hl50 : l.length ≤ 50 := by omega
     replace hr0 : Hide _ := hr0
     replace hA : Hide _ := trivial
     replace hB : Hide _ := trivial
     replace hC : Hide _ := trivial
     replace hD : Hide _ := trivial
     replace hE : Hide _ := trivial
     replace hget : Hide _ := hget
     replace hset : Hide _ := hset
     replace hhl : Hide _ := hhl
     replace hpos : Hide _ := hpos
     replace k4 : Hide _ := k4
     replace hgr : Hide _ := hgr
     replace hnil : Hide _ := hnil
     clear hcr hfw ht ha hok hc hs hf hw hl0
     repeat' (first | (refine zD fun K hK => ?_) | (refine zA fun K hK => ?_; simp (disch := omega) [go_sem, *, zK, mk3_true, Tryz.ntmps25 ]) | (apply Hide.out hK; clear hK K; try with_reducible dsimp only [zC]) | (apply Hide.out hf; clear ht hf Kt Kf) | (with_reducible refine APure.gcall (k1) ?_; try simp (disch := omega) [go_sem, * ]) | (with_reducible refine APure.gcall (k2) ?_; try simp (disch := omega) [go_sem, * ]) | (with_reducible refine APure.gcall (k3) ?_; try simp (disch := omega) [go_sem, * ]) | (refine zG ?_) | (refine zI ?_; simp only [zC]) | (refine zE fun Kt Kf ht hf => ?_; simp (disch := omega) [go_sem, * ]; try (refine ⟨fun hc => ?_, fun hc => ?_⟩ <;> try (exfalso; omega))))
     refine zc (fun s' => ∃ (ka kb kc kd ke n' : Nat) (more : Bool) (done : List (List Int)) (H : AHeap), (n + 1 + 4 + 2 + 9 + 2 + 5 + 1) + 2 < n' ∧ ka < A.length ∧ kb < B.length ∧ kc < C.length ∧ kd < D.length ∧ ke < E.length ∧ (more = true → done ++ rest [A, B, C, D, E] [ka, kb, kc, kd, ke] = tup [A, B, C, D, E]) ∧ (more = false → done = tup [A, B, C, D, E]) ∧
         H n = some (.cells [.fslc true true 0 [], iv .i64 0]) ∧ H (n + 1 + 4 + 2 + 6) = some (.cells [encI A, encI B, encI C, encI D, encI E]) ∧ H (n + 1 + 4 + 2 + 9 + 2 + 3) = some (.cells (hits l done 1 (l.length + 1))) ∧ H (n + 1 + 4 + 2 + 9 + 2 + 5 + 1) = some (.cells [iv .i64 ka, iv .i64 kb, iv .i64 kc, iv .i64 kd, iv .i64 ke]) ∧ (∀ x, x < n → H x = h x) ∧
         s' = ⟨65, [(0, .fslc nl fu s (l.map encO)), (2, .ptr n 0), (4, .ptr (n + 1 + 4 + 2 + 6) 0), (6, .slc (n + 1 + 4 + 2 + 9 + 2 + 3) 0 (l.length + 1) 1), (7, .ptr (n + 1 + 4 + 2 + 9 + 2 + 5 + 1) 0), (8, bv more)], H, n'⟩)
       (leftT 8 [A, B, C, D, E] (n + 1 + 4 + 2 + 9 + 2 + 5 + 1)) ?_ ?_
     · refine zb (by simp [go_sem]) (Sub.refl _) ⟨0, 0, 0, 0, 0, _, true, [], _, by omega, by omega, by omega, by omega, by omega, by omega, fun _ => ?_, (by simp), ?_, ?_, ?_, ?_, fun x hx => ?_, rfl⟩
       · rw [List.nil_append, ← rest_zero _ hpos.out]; rfl
       · simp (disch := omega) only [zB, zN]
       · simp (disch := omega) only [zB, zN]
       · simp (disch := omega) only [zB, zN]; rw [hnil.out]; rfl
       · simp (disch := omega) only [zN]; rfl
       · simp (disch := omega) only [zB]
     · rintro s' ⟨ka, kb, kc, kd, ke, n', more, done, H, hn', ga, gb, gc, gd, ge, hm1, hm2, q1, q2, q3, q4, hfr, rfl⟩
       replace hfr : Hide _ := hfr
       have hhd := hhl.out done
       cases more
       · have hd := hm2 rfl
         subst hd
         clear hm1 hm2
         obtain ⟨u, hu⟩ : ∃ u : Nat → Bool, Hide (u = fun k : Nat => hit l (tup [A, B, C, D, E]) k) := ⟨_, rfl⟩
         have hget2 : ∀ k, k < l.length → (hits l (tup [A, B, C, D, E]) 1 (l.length + 1))[k + 1]? = some (bv (u k)) := fun k hk => by
           have := hget.out (tup [A, B, C, D, E]) (k + 1) (by omega)
           rw [hu.out, this]
           have e : ((k + 1 : Nat) : Int) - (1 : Nat) = k := by omega
           rw [e]
         have hr2 : r0 = unusU u l.length := by rw [hr0.out, hu.out]
         replace hu : Hide _ := trivial
         replace hr0 : Hide _ := trivial
         replace hget : Hide _ := trivial
         replace hset : Hide _ := trivial
         replace hnil : Hide _ := trivial
         replace hhl : Hide _ := trivial
         replace hpos : Hide _ := trivial
         obtain ⟨U, hU⟩ : ∃ U, U = hits l (tup [A, B, C, D, E]) 1 (l.length + 1) := ⟨_, rfl⟩
         rw [← hU] at q3 hget2 hhd
         replace hU : Hide _ := trivial
         replace hget2 : Hide _ := hget2
         replace hr2 : Hide _ := hr2
         replace q4 : Hide _ := trivial
         replace q2 : Hide _ := trivial
         clear ga gb gc gd ge lA lB lC lD lE
         obtain ⟨H0, hH0⟩ : ∃ H0, Hide (H0 = H) := ⟨_, rfl⟩
         repeat' (first | (refine zD fun K hK => ?_) | (refine zA fun K hK => ?_; simp (disch := omega) [go_sem, *]) | (apply Hide.out hK; clear hK K; try with_reducible dsimp only [zC]) | (apply Hide.out hf; clear ht hf Kt Kf) | (clear hK K; apply Hide.out hK; clear hK K; try with_reducible dsimp only [zC]) | (refine zG ?_) | (refine zS ?_; simp only [zC, zF, if_true]) | (refine zE fun Kt Kf ht hf => ?_; simp (disch := omega) [go_sem, *]; try (refine ⟨fun hc => ?_, fun hc => ?_⟩ <;> try (exfalso; omega))))
         refine zc (fun s' => ∃ (i n2 m : Nat) (H2 : AHeap), n' ≤ n2 ∧ i ≤ l.length ∧ (unusU u i ≠ [] → n' ≤ m ∧ m < n2 ∧ H2 m = some (.cells ((unusU u i).map (iv .i64)))) ∧ (∀ x, x < n' → H2 x = H x) ∧ s' = ⟨65, [(0, .fslc nl fu s (l.map encO)), (2, .ptr n 0), (6, .slc (n + 1 + 4 + 2 + 9 + 2 + 3) 0 (l.length + 1) 1), (9, rowV (fun _ => m) (fun _ => unusU u i) 0), (10, iv .i64 i)], H2, n2⟩)
           (fun s' => l.length - (intAt s' 10).toNat) ?_ ?_
         · have e0 : rowV (fun _ => 0) (fun _ => unusU u 0) 0 = .fslc true true 0 [] := rfl
           refine zb ?_ (Sub.refl _) ⟨0, _, 0, _, ?_, ?_, fun e => (e rfl).elim, fun _ _ => rfl, rfl⟩
           · rw [e0]; simp [go_sem]
           · omega
           · omega
         · rintro s' ⟨i, n2, m, H2, hn2, hi, hm, hfx, rfl⟩
           obtain ⟨xs, hxs⟩ : ∃ xs, xs = unusU u i := ⟨_, rfl⟩
           have hrl := unusU_len u i
           have qM : H2 (n + 1 + 4 + 2 + 9 + 2 + 3) = some (.cells U) := by rw [hfx _ (by omega)]; exact q3
           have qn : H2 n = some (.cells [.fslc true true 0 [], iv .i64 0]) := by rw [hfx _ (by omega)]; exact q1
           rw [← hxs] at hm hrl ⊢
           replace hfx : Hide _ := hfx
           have hsc := rowV_sc (fun _ => m) (fun _ => xs) 0
           by_cases hlt : i < l.length
           · obtain ⟨hgp, hg⟩ := List.getElem?_eq_some_iff.1 (hget2.out i hlt)
             have hsu := unusU_succ u i
             rw [← hxs] at hsu
             cases hui : u i with
             | true =>
               rw [hui] at hg hsu
               simp only [if_true] at hsu
               replace hm : Hide _ := hm
               replace hsu : Hide _ := hsu
               replace hxs : Hide _ := hxs
               repeat' (first | (refine zD fun K hK => ?_) | (refine zA fun K hK => ?_; simp (disch := omega) [go_sem, *, zK, zH, zL]) | (apply Hide.out hK; clear hK K; try with_reducible dsimp only [zC]) | (apply Hide.out ht; clear ht hf Kt Kf) | (apply Hide.out hf; clear ht hf Kt Kf) | (refine zG ?_) | (refine zI ?_; simp only [zC, zF]) | (refine zE fun Kt Kf ht hf => ?_; simp (disch := omega) [go_sem, *]; try (refine ⟨fun hc => ?_, fun hc => ?_⟩ <;> try (exfalso; omega))))
               refine zW ?_ (Sub.refl _) ⟨i + 1, _, m, _, by omega, by omega, ?_, hfx.out, rfl⟩ (by simp [intAt, go_sem]; omega)
               · rw [hsu.out]; simp (disch := omega) [go_sem]
               · intro e; rw [hsu.out] at e ⊢; obtain ⟨e1, e2, e3⟩ := hm.out e; exact ⟨e1, by omega, e3⟩
             | false =>
               rw [hui] at hg hsu
               simp only [Bool.false_eq_true, if_false] at hsu
               have hap := fun (nm : Nat) (h0 : AHeap) (b c : Bool) (he : xs ≠ [] → h0 m = some (.cells (xs.map (iv .i64)))) => ap_row (fun _ => xs) (fun _ => m) 0 h0 nm b c i he (by show xs.length ≤ _; omega)
               replace hm : Hide _ := hm
               replace hsu : Hide _ := hsu
               replace hxs : Hide _ := hxs
               repeat' (first | (refine zD fun K hK => ?_) | (refine zA fun K hK => ?_; simp (disch := omega) [go_sem, *, zK, zH, zL]) | (apply Hide.out hK; clear hK K; try with_reducible dsimp only [zC]) | (apply Hide.out ht; clear ht hf Kt Kf) | (refine zG ?_) | (refine zI ?_; simp only [zC]) | (refine zE fun Kt Kf ht hf => ?_; simp (disch := omega) [go_sem, *]; try (refine ⟨fun hc => ?_, fun hc => ?_⟩ <;> try (exfalso; omega))))
               rw [hap _ _ _ _ (fun e0 => (hm.out e0).2.2)]
               clear hap
               simp (disch := omega) [go_sem]
               repeat' (first | (refine zA fun K hK => ?_; simp (disch := omega) [go_sem, *, zK]) | (apply Hide.out hK; clear hK K; try with_reducible dsimp only [zC]))
               have er : ∀ k, rowV (fun _ => k) (fun _ => unusU u (i + 1)) 0 = .slc k 0 (xs.length + 1) 1 := fun k => by rw [hsu.out]; simp [rowV]
               refine zW ?_ (Sub.refl _) ⟨i + 1, _, n2 + 4 + 6 + 3, _, by omega, by omega, ?_, fun x hx => ?_, rfl⟩ (by simp [intAt, go_sem]; omega)
               · rw [er]; simp (disch := omega) [go_sem]
               · intro _; exact ⟨by omega, by omega, by rw [hsu.out]; exact apH_new _ _ _ _ _ _⟩
               · rw [apH_old _ _ _ _ _ _ _ (by omega) (fun e0 => by have := (hm.out e0).1; omega)]; exact hfx.out x hx
           · have hii : i = l.length := by omega
             subst hii
             rw [← hr2.out] at hxs
             subst hxs
             replace hm : Hide _ := hm
             clear hsc
             by_cases h0 : xs = []
             · subst h0
               have ev : rowV (fun _ => m) (fun _ => ([] : List Int)) 0 = .fslc true true 0 [] := rfl
               rw [ev]
               clear ev
               repeat' (first | (refine zD fun K hK => ?_) | (refine zA fun K hK => ?_; simp (disch := omega) [go_sem, *]) | (apply Hide.out hK; clear hK K; try with_reducible dsimp only [zC]) | (apply Hide.out hf; clear ht hf Kt Kf) | (clear hK K; apply Hide.out hK; clear hK K; try with_reducible dsimp only [zC]) | (refine zS ?_; simp only [zC, zF, if_true]) | (refine zE fun Kt Kf ht hf => ?_; simp (disch := omega) [go_sem, *]; try (refine ⟨fun hc => ?_, fun hc => ?_⟩ <;> try (exfalso; omega))))
               refine zM ?_
               try dsimp only [zC, zF]
               refine ⟨by simp, _, (by first | rfl | (simp (disch := omega) [go_sem] <;> rfl)), ?_⟩
               refine zJ ⟨fun k hk => ?_, ?_, rfl, rfl, rfl⟩
               · simp (disch := omega) only [zB]; rw [hfx.out k (by omega)]; exact hfr.out k hk
               · simp [go_sem, below, zR, resVal]
             · obtain ⟨m1, m2, m3⟩ := hm.out h0
               have ev : rowV (fun _ => m) (fun _ => xs) 0 = .slc m 0 xs.length 1 := by simp [rowV, h0]
               rw [ev]
               clear ev
               repeat' (first | (refine zD fun K hK => ?_) | (refine zA fun K hK => ?_; simp (disch := omega) [go_sem, *]) | (apply Hide.out hK; clear hK K; try with_reducible dsimp only [zC]) | (apply Hide.out hf; clear ht hf Kt Kf) | (clear hK K; apply Hide.out hK; clear hK K; try with_reducible dsimp only [zC]) | (refine zS ?_; simp only [zC, zF, if_true]) | (refine zE fun Kt Kf ht hf => ?_; simp (disch := omega) [go_sem, *]; try (refine ⟨fun hc => ?_, fun hc => ?_⟩ <;> try (exfalso; omega))))
               refine zM ?_
               try dsimp only [zC, zF]
               refine ⟨by simp, _, (by first | rfl | (simp (disch := omega) [go_sem] <;> rfl)), ?_⟩
               show RetOk _ _ (.agg [.slc m 0 xs.length 1, iv .i64 0]) _ _
               refine ret_freeze (m := m) (c := xs.map (iv .i64)) false ?_ ?_
               · rw [zB _ _ _ _ (by omega)]; exact m3
               have ef : fzT m (xs.map (iv .i64)) false (.agg [.slc m 0 xs.length 1, iv .i64 0]) = .agg [rowF xs, iv .i64 0] := by
                 have := elems_ints xs
                 simp [fzT, fz, rowF, h0, encI, this]
               rw [ef]
               refine zJ ⟨fun k hk => ?_, ?_, rfl, rfl, rfl⟩
               · simp (disch := omega) only [zB]; rw [hfx.out k (by omega)]; exact hfr.out k hk
               · have := below_int n xs
                 simp [rowF, h0, encI, below, zR, this]
       · replace hm1 := hm1 rfl
         clear hm2
         obtain ⟨ja, jb, jc, jd, je, more, c6, ra, rb, rc, rd, re, hnx1, hnx2⟩ := next_spec A B C D E ka kb kc kd ke ga gb gc gd ge (by omega) (by omega) (by omega) (by omega) (by omega)
         obtain ⟨xa, ya⟩ : ∃ x, A[ka]? = some x := ⟨A[ka], List.getElem?_eq_getElem ga⟩
         obtain ⟨xb, yb⟩ : ∃ x, B[kb]? = some x := ⟨B[kb], List.getElem?_eq_getElem gb⟩
         obtain ⟨xc, yc⟩ : ∃ x, C[kc]? = some x := ⟨C[kc], List.getElem?_eq_getElem gc⟩
         obtain ⟨xd, yd⟩ : ∃ x, D[kd]? = some x := ⟨D[kd], List.getElem?_eq_getElem gd⟩
         obtain ⟨xe, ye⟩ : ∃ x, E[ke]? = some x := ⟨E[ke], List.getElem?_eq_getElem ge⟩
         have c7 := choice_spec A B C D E ka kb kc kd ke xa xb xc xd xe ya yb yc yd ye
         have hpk : pickI [A, B, C, D, E] [ka, kb, kc, kd, ke] = [xa, xb, xc, xd, xe] := by simp [pickI, List.getD, ya, yb, yc, yd, ye]
         have hrn := rest_next [A, B, C, D, E] [ka, kb, kc, kd, ke] hpos.out rfl
         rw [hpk] at hrn
         have hlft : (rest [A, B, C, D, E] [ka, kb, kc, kd, ke]).length = (match nextI [A, B, C, D, E] [ka, kb, kc, kd, ke] with | some js => (rest [A, B, C, D, E] js).length | none => 0) + 1 := by
           rw [hrn]
           cases nextI [A, B, C, D, E] [ka, kb, kc, kd, ke] <;> simp
         rw [hrn] at hm1
         have c8 := k4.out ⟨xa, xb, xc, xd, xe⟩
         have c9 := hgr.out ⟨xa, xb, xc, xd, xe⟩
         have c10 := hset.out done
         replace c9 : -1 ≤ giv l ⟨xa, xb, xc, xd, xe⟩ ∧ giv l ⟨xa, xb, xc, xd, xe⟩ < 0 + (l.length : Int) := c9
         obtain ⟨k, hk⟩ : ∃ k : Nat, giv l ⟨xa, xb, xc, xd, xe⟩ + 1 = k := ⟨(giv l ⟨xa, xb, xc, xd, xe⟩ + 1).toNat, by omega⟩
         have hst := c10 k [xa, xb, xc, xd, xe] (by omega) (by show giv l ⟨xa, xb, xc, xd, xe⟩ = _; omega)
         have hst3 : (hits l done 1 (l.length + 1)).take k ++ AV.c (.bool true) :: (hits l done 1 (l.length + 1)).drop (k + 1) = hits l (done ++ [[xa, xb, xc, xd, xe]]) 1 (l.length + 1) := by simpa [splice] using hst
         generalize giv l ⟨xa, xb, xc, xd, xe⟩ = g at *
         generalize hits l done 1 (l.length + 1) = U at *
         clear ya yb yc yd ye hpk hrn ga gb gc gd ge lA lB lC lD lE k1 k2 k3 c10 hst
         replace hlft : Hide _ := hlft
         replace hm1 : Hide _ := hm1
         replace hnx1 : Hide _ := hnx1
         replace hnx2 : Hide _ := hnx2
         replace hst3 : Hide _ := hst3
         repeat' (first | (refine zD fun K hK => ?_) | (refine zA fun K hK => ?_; simp (disch := omega) [go_sem, *, zB]) | (apply Hide.out hK; clear hK K; try with_reducible dsimp only [zC]) | (apply Hide.out ht; clear ht hf Kt Kf) | (with_reducible refine APure.gcall (c7) ?_; try simp (disch := omega) [go_sem, *]) | (with_reducible refine APure.gcall (c8) ?_; try simp (disch := omega) [go_sem, *, zK, stepK_if, zH, zL]) | (with_reducible refine APure.gcall (c6) ?_; try simp (disch := omega) [go_sem, *, zB]) | (refine zG ?_) | (refine zI ?_; simp only [zC]) | (refine zE fun Kt Kf ht hf => ?_; simp (disch := omega) [go_sem, *]; try (refine ⟨fun hc => ?_, fun hc => ?_⟩ <;> try (exfalso; omega))))
         simp only [zF, zC]
         refine zW ?_ (Sub.refl _) ⟨ja, jb, jc, jd, je, _, more, done ++ [[xa, xb, xc, xd, xe]], _, by omega, ra, rb, rc, rd, re, fun hh => ?_, fun hh => ?_, ?_, ?_, ?_, ?_, fun x hx => ?_, rfl⟩ ?_
         · simp [go_sem]
         · have := hm1.out; rw [hnx1.out hh] at this; rw [List.append_assoc]; exact this
         · have := hm1.out; rw [hnx2.out hh] at this; exact this
         · simp (disch := omega) only [zB]; exact q1
         · simp (disch := omega) only [zB]; exact q2
         · simp (disch := omega) only [zB, zN]; rw [hst3.out]
         · simp (disch := omega) only [zN]
         · simp (disch := omega) only [zB]; exact hfr.out x hx
         · have hl := hlft.out
           cases more with
           | false => simp (disch := omega) [leftT, go_sem, zN, q4]; omega
           | true => rw [hnx1.out rfl] at hl; simp (disch := omega) [leftT, go_sem, zN, q4]; simp only at hl; omega
   · have hfw2 : fewP (ze l) = false := by simpa using hfw
     rw [if_neg hfw] at hR
     rw [hfw2] at k3
     simp only [Prod.mk.injEq] at hR
     obtain ⟨rfl, rfl⟩ := hR
     have er : rowF ([] : List Int) = .fslc true true 0 [] := rfl
     rw [er]
     generalize numsP 0 (ze l) = A at *
     generalize numsP 1 (ze l) = B at *
     generalize numsP 2 (ze l) = C at *
     generalize numsP 3 (ze l) = D at *
     generalize numsP 4 (ze l) = E at *
     clear hw hs hf hc ha hok ht hfw hfw2
     repeat' (first | (refine zD fun K hK => ?_) | (refine zA fun K hK => ?_; simp (disch := omega) [go_sem, *, zB, Tryz.ntmps25 ]) | (apply Hide.out hK; clear hK K; try with_reducible dsimp only [zC]) | (apply Hide.out ht; clear ht hf Kt Kf) | (apply Hide.out hf; clear ht hf Kt Kf) | (with_reducible refine APure.gcall (k1) ?_; try simp (disch := omega) [go_sem, * ]) | (with_reducible refine APure.gcall (k2) ?_; try simp (disch := omega) [go_sem, * ]) | (with_reducible refine APure.gcall (k3) ?_; try simp (disch := omega) [go_sem, * ]) | (refine zI ?_; simp only [zC]) | (refine zE fun Kt Kf ht hf => ?_; simp (disch := omega) [go_sem, * ]; try (refine ⟨fun hc => ?_, fun hc => ?_⟩ <;> try (exfalso; omega))))
     (refine zM ?_; try dsimp only [zC, zF]; refine ⟨by simp, _, (by first | rfl | (simp (disch := omega) [go_sem] <;> rfl)), ?_⟩; refine zJ ⟨fun k hk => (by first | rfl | (repeat rw [zB _ _ _ _ (by omega)])), (by simp [go_sem, below, zR]), (by simp [go_sem] <;> omega), by simp, by simp⟩)
 · rw [if_pos hc] at hR
   have hne : (chk l != 0) = true := by simpa using hc
   simp only [Prod.mk.injEq] at hR
   obtain ⟨rfl, rfl⟩ := hR
   generalize chk l = e at *
   clear hw hs hf hl0
   generalize List.map encO l = L at *
   have er : rowF ([] : List Int) = .fslc true true 0 [] := rfl
   rw [er]
   repeat' (first | (refine zD fun K hK => ?_) | (refine zA fun K hK => ?_; simp (disch := omega) [go_sem, *, Tryz.ntmps25 ]) | (apply Hide.out hK; clear hK K; try with_reducible dsimp only [zC]) | (apply Hide.out ht; clear ht hf Kt Kf) | (with_reducible refine APure.gcall (k1) ?_; try simp (disch := omega) [go_sem, * ]) | (refine zE fun Kt Kf ht hf => ?_; simp (disch := omega) [go_sem, * ]; try (refine ⟨fun hc => ?_, fun hc => ?_⟩ <;> try (exfalso; omega))))
   (refine zM ?_; try dsimp only [zC, zF]; refine ⟨by simp, _, (by first | rfl | (simp (disch := omega) [go_sem] <;> rfl)), ?_⟩; refine zJ ⟨fun k hk => (by first | rfl | (repeat rw [zB _ _ _ _ (by omega)])), (by simp [go_sem, below, zR]), (by simp [go_sem] <;> omega), by simp, by simp⟩)
end Go.AM
namespace Go.AM
open Go.Proofs Cw
set_option maxRecDepth 10000
set_option maxHeartbeats 4000000
theorem SameInts28 (nl fu : Bool) (s : Nat) (xs : List Int) (hnl : xs = [] ∨ nl = false ∧ s = 1) (hl : xs.length ≤ 1000000) : APure Tryz.prog 28 [.fslc nl fu s (xs.map (iv .i64)), .fslc nl fu s (xs.map (iv .i64))] (bv true) := by
 intro h n
 refine ACalls.pure (ACalls.entry (by kernel_rfl) fun hb _ => zO Tryz.func28 rfl (by kernel_rfl) (by simp [Tryz.ntmps28]) ?_)
 replace hnl : Hide _ := hnl
 repeat' (first | (refine zD fun K hK => ?_) | (refine zA fun K hK => ?_; simp (disch := omega) [go_sem, *, Tryz.ntmps28]) | (apply Hide.out hK; clear hK K; try with_reducible dsimp only [zC]) | (apply Hide.out hf; clear ht hf Kt Kf) | (refine zG ?_) | (refine zI ?_; simp only [zC]) | (refine zE fun Kt Kf ht hf => ?_; simp (disch := omega) [go_sem, *]; try (refine ⟨fun hc => ?_, fun hc => ?_⟩ <;> try (exfalso; omega))))
 refine zc (fun s' => ∃ (i n' : Nat), n ≤ n' ∧ i ≤ xs.length ∧ s' = ⟨26, [(0, .fslc nl fu s (xs.map (iv .i64))), (1, .fslc nl fu s (xs.map (iv .i64))), (5, iv .i64 i)], h, n'⟩)
     (fun s' => xs.length - (intAt s' 5).toNat) ?_ ?_
 · exact zb (by simp [go_sem]) (Sub.refl _) ⟨0, _, by omega, by omega, rfl⟩
 · rintro s' ⟨i, n', hn', hi, rfl⟩
   by_cases hlt : i < xs.length
   · have hne : xs ≠ [] := fun e => by rw [e] at hlt; simp at hlt
     obtain ⟨rfl, rfl⟩ := hnl.out.resolve_left hne
     clear hne
     repeat' (first | (refine zD fun K hK => ?_) | (refine zA fun K hK => ?_; simp (disch := omega) [go_sem, *, zK, zH]) | (refine zX mixed (by kernel_rfl) fun K hK => ?_; simp (disch := omega) [go_sem, *, zL]) | (apply Hide.out hK; clear hK K; try with_reducible dsimp only [zC]) | (apply Hide.out ht; clear ht hf Kt Kf) | (apply Hide.out hf; clear ht hf Kt Kf) | (refine zG ?_) | (refine zI ?_; simp only [zC, zF]) | (refine zE fun Kt Kf ht hf => ?_; simp (disch := omega) [go_sem, *]; try (refine ⟨fun hc => ?_, fun hc => ?_⟩ <;> try (exfalso; omega))))
     exact zW (by simp (disch := omega) [go_sem]) (Sub.refl _) ⟨i + 1, _, by omega, by omega, rfl⟩ (by simp [intAt, go_sem]; omega)
   · have hii : i = xs.length := by omega
     subst hii
     repeat' (first | (refine zD fun K hK => ?_) | (refine zA fun K hK => ?_; simp (disch := omega) [go_sem, *]) | (apply Hide.out hK; clear hK K; try with_reducible dsimp only [zC]) | (apply Hide.out hf; clear ht hf Kt Kf) | (clear hK K; apply Hide.out hK; clear hK K; try with_reducible dsimp only [zC]) | (refine zS ?_; simp only [zC, zF, if_true]) | (refine zE fun Kt Kf ht hf => ?_; simp (disch := omega) [go_sem, *]; try (refine ⟨fun hc => ?_, fun hc => ?_⟩ <;> try (exfalso; omega))))
     (refine zM ?_; try dsimp only [zC, zF]; refine ⟨by simp, _, (by first | rfl | (simp (disch := omega) [go_sem, zB] <;> rfl)), ?_⟩; refine zJ ⟨fun k hk => (by first | rfl | (repeat rw [zB _ _ _ _ (by omega)])), (by simp [go_sem, below]), (by simp [go_sem] <;> omega), by simp, by simp⟩)
theorem SameInts_row (xs : List Int) (hl : xs.length ≤ 1000000) : APure Tryz.prog 28 [rowF xs, rowF xs] (bv true) := by
 by_cases h0 : xs = []
 · subst h0; exact SameInts28 true true 0 [] (.inl rfl) (by simp)
 · have e : rowF xs = .fslc false false 1 (xs.map (iv .i64)) := by rw [rowF, if_neg h0]
   rw [e]; exact SameInts28 false false 1 xs (.inr ⟨rfl, rfl⟩) hl
def nameG (l : List Ordr) (fs : Fs) : ByteArray := if 0 ≤ giv l fs then (match l[(giv l fs).toNat]? with | some o => o.name | none => ByteArray.empty) else ByteArray.empty
theorem given68 (nl fu : Bool) (s : Nat) (l : List Ordr) (hnl : l = [] ∨ nl = false ∧ s = 7) (hw : okO l) (hl : l.length ≤ 1000000) (fs : Fs) : APure Tryz.prog 68 [.fslc nl fu s (l.map encO), encF fs] (sv (nameG l fs)) := by
 intro h n
 have k1 := decide56 nl fu s l hnl hw hl fs
 have hg : -1 ≤ giv l fs ∧ giv l fs < 0 + (l.length : Int) := giv_range fs l 0 (-1) 0 (by omega) (by omega)
 refine ACalls.pure (ACalls.entry (by kernel_rfl) fun hb _ => zO Tryz.func68 rfl (by kernel_rfl) (by simp [Tryz.ntmps68]) ?_)
 obtain ⟨fa, fb, fc, fd, fe⟩ := fs
 unfold nameG
 generalize giv l ⟨fa, fb, fc, fd, fe⟩ = g at *
 clear hw
 by_cases hg0 : 0 ≤ g
 · obtain ⟨k, rfl⟩ : ∃ k : Nat, g = k := ⟨g.toNat, by omega⟩
   have hlt : k < l.length := by omega
   have hne : l ≠ [] := fun e => by rw [e] at hlt; simp at hlt
   obtain ⟨rfl, rfl⟩ := hnl.resolve_left hne
   obtain ⟨⟨nm, rk, ck, cf, co, cn, cl, cu, cs, ks⟩, hx⟩ : ∃ o, l[k] = o := ⟨_, rfl⟩
   have hex : encO l[k] = .agg [sv nm, iv .i64 rk, iv .i64 ck, iv .i64 cf, iv .i64 co, iv .i64 cn, .fslc cl cu cs (encL ks)] := by rw [hx]; rfl
   have hres : (if (0 : Int) ≤ (k : Int) then (match l[((k : Int)).toNat]? with | some o => o.name | none => ByteArray.empty) else ByteArray.empty) = nm := by
     rw [if_pos hg0, Int.toNat_natCast, List.getElem?_eq_getElem hlt, hx]
   rw [hres]
   replace hx : Hide _ := hx
   replace hres : Hide _ := trivial
   replace hnl : Hide _ := trivial
   clear hne
   repeat' (first | (refine zD fun K hK => ?_) | (refine zA fun K hK => ?_; simp (disch := omega) [go_sem, *, Tryz.ntmps68 ]) | (apply Hide.out hK; clear hK K; try with_reducible dsimp only [zC]) | (apply Hide.out ht; clear ht hf Kt Kf) | (with_reducible refine APure.gcall (k1) ?_; try simp (disch := omega) [go_sem, * ]) | (refine zE fun Kt Kf ht hf => ?_; simp (disch := omega) [go_sem, * ]; try (refine ⟨fun hc => ?_, fun hc => ?_⟩ <;> try (exfalso; omega))))
   (refine zM ?_; try dsimp only [zC, zF]; refine ⟨by simp, _, (by first | rfl | (simp (disch := omega) [go_sem, zB] <;> rfl)), ?_⟩; refine zJ ⟨fun k hk => (by first | rfl | (repeat rw [zB _ _ _ _ (by omega)])), (by simp [go_sem, below]), (by simp [go_sem] <;> omega), by simp, by simp⟩)
 · have e1 : g = -1 := by omega
   subst e1
   rw [if_neg hg0, show sv ByteArray.empty = AV.c (Value.string { data := #[] }) from rfl]
   generalize List.map encO l = L at *
   clear hg hg0
   repeat' (first | (refine zD fun K hK => ?_) | (refine zA fun K hK => ?_; simp (disch := omega) [go_sem, *, ile_false, Tryz.ntmps68 ]) | (apply Hide.out hK; clear hK K; try with_reducible dsimp only [zC]) | (apply Hide.out hf; clear ht hf Kt Kf) | (with_reducible refine APure.gcall (k1) ?_; try simp (disch := omega) [go_sem, * ]) | (refine zI ?_; simp only [zC]) | (refine zE fun Kt Kf ht hf => ?_; simp (disch := omega) [go_sem, * ]; try (refine ⟨fun hc => ?_, fun hc => ?_⟩ <;> try (exfalso; omega))))
   (refine zM ?_; try dsimp only [zC, zF]; refine ⟨by simp, _, (by first | rfl | (simp (disch := omega) [go_sem, zB] <;> rfl)), ?_⟩; refine zJ ⟨fun k hk => (by first | rfl | (repeat rw [zB _ _ _ _ (by omega)])), (by simp [go_sem, below]), (by simp [go_sem] <;> omega), by simp, by simp⟩)
theorem named69 (nl fu : Bool) (s : Nat) (l : List Ordr) (hnl : l = [] ∨ nl = false ∧ s = 7) (hw : okO l) (hl : l.length ≤ 1000000) (fs : Fs) : APure Tryz.prog 69 [.fslc nl fu s (l.map encO), encF fs] (sv (nameG l fs)) := by
 intro h n
 have k1 := given58 nl fu s l hnl hw hl fs
 have hg : -1 ≤ giv l fs ∧ giv l fs < 0 + (l.length : Int) := giv_range fs l 0 (-1) 0 (by omega) (by omega)
 refine ACalls.pure (ACalls.entry (by kernel_rfl) fun hb _ => zO Tryz.func69 rfl (by kernel_rfl) (by simp [Tryz.ntmps69]) ?_)
 obtain ⟨fa, fb, fc, fd, fe⟩ := fs
 unfold nameG
 generalize giv l ⟨fa, fb, fc, fd, fe⟩ = g at *
 clear hw
 by_cases hg0 : 0 ≤ g
 · obtain ⟨k, rfl⟩ : ∃ k : Nat, g = k := ⟨g.toNat, by omega⟩
   have hlt : k < l.length := by omega
   have hne : l ≠ [] := fun e => by rw [e] at hlt; simp at hlt
   obtain ⟨rfl, rfl⟩ := hnl.resolve_left hne
   obtain ⟨⟨nm, rk, ck, cf, co, cn, cl, cu, cs, ks⟩, hx⟩ : ∃ o, l[k] = o := ⟨_, rfl⟩
   have hex : encO l[k] = .agg [sv nm, iv .i64 rk, iv .i64 ck, iv .i64 cf, iv .i64 co, iv .i64 cn, .fslc cl cu cs (encL ks)] := by rw [hx]; rfl
   have hres : (if (0 : Int) ≤ (k : Int) then (match l[((k : Int)).toNat]? with | some o => o.name | none => ByteArray.empty) else ByteArray.empty) = nm := by
     rw [if_pos hg0, Int.toNat_natCast, List.getElem?_eq_getElem hlt, hx]
   rw [hres]
   replace hx : Hide _ := hx
   replace hres : Hide _ := trivial
   replace hnl : Hide _ := trivial
   clear hne
   repeat' (first | (refine zD fun K hK => ?_) | (refine zA fun K hK => ?_; simp (disch := omega) [go_sem, *, zV, Tryz.ntmps69 ]) | (apply Hide.out hK; clear hK K; try with_reducible dsimp only [zC]) | (apply Hide.out hf; clear ht hf Kt Kf) | (with_reducible refine APure.gcall (k1) ?_; try simp (disch := omega) [go_sem, * ]) | (refine zI ?_; simp only [zC]) | (refine zE fun Kt Kf ht hf => ?_; simp (disch := omega) [go_sem, * ]; try (refine ⟨fun hc => ?_, fun hc => ?_⟩ <;> try (exfalso; omega))))
   (refine zM ?_; try dsimp only [zC, zF]; refine ⟨by simp, _, (by first | rfl | (simp (disch := omega) [go_sem, zB] <;> rfl)), ?_⟩; refine zJ ⟨fun k hk => (by first | rfl | (repeat rw [zB _ _ _ _ (by omega)])), (by simp [go_sem, below]), (by simp [go_sem] <;> omega), by simp, by simp⟩)
 · have e1 : g = -1 := by omega
   subst e1
   rw [if_neg hg0, show sv ByteArray.empty = AV.c (Value.string { data := #[] }) from rfl]
   generalize List.map encO l = L at *
   clear hg hg0
   repeat' (first | (refine zD fun K hK => ?_) | (refine zA fun K hK => ?_; simp (disch := omega) [go_sem, *, zH, Tryz.ntmps69 ]) | (apply Hide.out hK; clear hK K; try with_reducible dsimp only [zC]) | (apply Hide.out ht; clear ht hf Kt Kf) | (with_reducible refine APure.gcall (k1) ?_; try simp (disch := omega) [go_sem, * ]) | (refine zE fun Kt Kf ht hf => ?_; simp (disch := omega) [go_sem, * ]; try (refine ⟨fun hc => ?_, fun hc => ?_⟩ <;> try (exfalso; omega))))
   (refine zM ?_; try dsimp only [zC, zF]; refine ⟨by simp, _, (by first | rfl | (simp (disch := omega) [go_sem, zB] <;> rfl)), ?_⟩; refine zJ ⟨fun k hk => (by first | rfl | (repeat rw [zB _ _ _ _ (by omega)])), (by simp [go_sem, below]), (by simp [go_sem] <;> omega), by simp, by simp⟩)
end Go.AM
