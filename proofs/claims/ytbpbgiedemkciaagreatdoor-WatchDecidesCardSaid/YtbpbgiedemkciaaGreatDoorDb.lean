/- The specification's numbers of a condition. Conditions: as each theorem says. -/
import Derived.Test.YtbpbgiedemkciaaGreatDoorDa
namespace Go.AM
open Go.Proofs Cw
set_option maxRecDepth 10000
set_option maxHeartbeats 4000000
theorem rins_at : ∀ (l : List Int) (n : Int) (i : Nat), i ≤ l.length → (∀ (j : Nat) (x : Int), j < i → l[j]? = some x → x < n) → (∀ x : Int, l[i]? = some x → n ≤ x) → rins l n = if l[i]? = some n then l else l.take i ++ n :: l.drop i
 | [], n, i, hi, _, _ => by
   have : i = 0 := by simpa using hi
   subst this; simp [rins]
 | y :: r, n, 0, _, _, h2 => by
   have := h2 y (by simp)
   simp only [rins]
   rw [if_neg (by omega)]
   simp
 | y :: r, n, i + 1, hi, h1, h2 => by
   have hy := h1 0 y (by omega) (by simp)
   have ih := rins_at r n i (by simpa using hi) (fun j x hj hx => h1 (j + 1) x (by omega) (by simpa using hx)) (fun x hx => h2 x (by simpa using hx))
   simp only [rins]
   rw [if_pos hy, ih]
   simp only [List.getElem?_cons_succ, List.take_succ_cons, List.drop_succ_cons, List.cons_append]
   split <;> rfl
abbrev encI (l : List Int) : AV := .fslc false false 1 (l.map (iv .i64))
theorem add_spec (l : List Int) (v : Int) (hl : l.length ≤ 100000) : APure Tryz.prog 155 [encI l, iv .i64 v] (encI (radd l v)) := by
 intro h n
 refine ACalls.pure (ACalls.entry (by kernel_rfl) fun hb _ => zO Tryz.func155 rfl (by kernel_rfl) (by simp [Tryz.ntmps155]) ?_)
 obtain ⟨T, hT⟩ : ∃ T, T = encI (radd l v) := ⟨_, rfl⟩
 rw [← hT]
 replace hT : Hide _ := hT
 simp only [encI]
 repeat' (first | (refine zD fun K hK => ?_) | (refine zA fun K hK => ?_; simp (disch := omega) [go_sem, *, Tryz.ntmps155]) | (apply Hide.out hK; clear hK K; try with_reducible dsimp only [zC]) | (refine zG ?_))
 refine zc (fun s' => ∃ (i : Nat) (n' : Nat), n ≤ n' ∧ i ≤ l.length ∧ (∀ (j : Nat) (x : Int), j < i → l[j]? = some x → x < v) ∧ s' = ⟨49, [(0, encI l), (1, iv .i64 v), (5, iv .i64 i)], h, n'⟩)
     (fun s' => l.length - (intAt s' 5).toNat) ?_ ?_
 · exact zb (by simp [go_sem, *]) (Sub.refl _) ⟨0, _, by omega, by omega, fun j x hj => by omega, rfl⟩
 · rintro s' ⟨i, n', hn', hi, hall, rfl⟩
   replace hall : Hide _ := hall
   by_cases hlt : i < l.length
   · obtain ⟨x, hx⟩ : ∃ x, l[i]? = some x := ⟨l[i], List.getElem?_eq_getElem hlt⟩
     have hx2 : l[i] = x := by rw [List.getElem?_eq_getElem hlt] at hx; exact Option.some.inj hx
     by_cases hxv : x < v
     · replace hx : Hide _ := hx
       repeat' (first | (refine zD fun K hK => ?_) | (refine zA fun K hK => ?_; simp (disch := omega) [go_sem, *, zK, zH, zL]) | (apply Hide.out hK; clear hK K; try with_reducible dsimp only [zC]) | (apply Hide.out ht; clear ht hf Kt Kf) | (refine zG ?_) | (refine zI ?_; simp only [zC]) | (refine zE fun Kt Kf ht hf => ?_; simp (disch := omega) [go_sem, *]; try (refine ⟨fun hc => ?_, fun hc => ?_⟩ <;> try (exfalso; omega))))
       exact zW (by simp (disch := omega) [go_sem]) (Sub.refl _) ⟨i + 1, _, by omega, by omega, fun j y hj hy => by
         rcases Nat.lt_or_ge j i with h1 | h1
         · exact hall.out j y h1 hy
         · have : j = i := by omega
           subst this
           rw [hx.out] at hy; cases hy; exact hxv, rfl⟩ (by simp [intAt, go_sem]; omega)
     · have hr := rins_at l v i (by omega) hall.out (fun y hy => by rw [hx] at hy; cases hy; omega)
       have hTv : T = encI (if v > 10000 then l else if l[i]? = some v then l else l.take i ++ v :: l.drop i) := by rw [hT.out, radd, hr]
       clear hr
       by_cases hbig : v > 10000
       · rw [if_pos hbig] at hTv
         subst hTv
         replace hx : Hide _ := hx
         repeat' (first | (refine zD fun K hK => ?_) | (refine zA fun K hK => ?_; simp (disch := omega) [go_sem, *, zH, zL]) | (apply Hide.out hK; clear hK K; try with_reducible dsimp only [zC]) | (apply Hide.out ht; clear ht hf Kt Kf) | (apply Hide.out hf; clear ht hf Kt Kf) | (clear hK K; apply Hide.out hK; clear hK K; try with_reducible dsimp only [zC]) | (refine zS ?_; simp only [zC, zF, if_true]) | (refine zE fun Kt Kf ht hf => ?_; simp (disch := omega) [go_sem, *]; try (refine ⟨fun hc => ?_, fun hc => ?_⟩ <;> try (exfalso; omega))))
         (refine zM ?_; try dsimp only [zC, zF]; refine ⟨by simp, _, (by first | rfl | (simp (disch := omega) [go_sem, zB] <;> rfl)), ?_⟩; refine zJ ⟨fun k hk => (by first | rfl | (repeat rw [zB _ _ _ _ (by omega)])), (by simp [go_sem, below, below_int]), (by simp [go_sem] <;> omega), by simp, by simp⟩)
       · rw [if_neg hbig] at hTv
         by_cases hxe : x = v
         · subst hxe
           rw [if_pos hx] at hTv
           subst hTv
           replace hx : Hide _ := hx
           repeat' (first | (refine zD fun K hK => ?_) | (refine zA fun K hK => ?_; simp (disch := omega) [go_sem, *, zH, zL]) | (apply Hide.out hK; clear hK K; try with_reducible dsimp only [zC]) | (apply Hide.out ht; clear ht hf Kt Kf) | (apply Hide.out hf; clear ht hf Kt Kf) | (clear hK K; apply Hide.out hK; clear hK K; try with_reducible dsimp only [zC]) | (refine zS ?_; simp only [zC, zF, if_true]) | (refine zE fun Kt Kf ht hf => ?_; simp (disch := omega) [go_sem, *]; try (refine ⟨fun hc => ?_, fun hc => ?_⟩ <;> try (exfalso; omega))))
           (refine zM ?_; try dsimp only [zC, zF]; refine ⟨by simp, _, (by first | rfl | (simp (disch := omega) [go_sem, zB] <;> rfl)), ?_⟩; refine zJ ⟨fun k hk => (by first | rfl | (repeat rw [zB _ _ _ _ (by omega)])), (by simp [go_sem, below, below_int]), (by simp [go_sem] <;> omega), by simp, by simp⟩)
         · rw [if_neg (by rw [hx]; intro e; cases e; exact hxe rfl)] at hTv
           replace hx : Hide _ := hx
           by_cases hi0 : i = 0
           · subst hi0
             have hap1 := fun nm (h0 : AHeap) (a b c : Bool) => ap49_0 nm h0 a b c []
             have hap2 := fun nm (h0 : AHeap) (a b c : Bool) => ap49_F nm h0 a b c [] [iv .i64 v] rfl rfl (by simp) (by simp)
             have hap3 := fun nm nm1 (h0 : AHeap) (b c : Bool) => ap49_S nm nm1 h0 b c [iv .i64 v] (l.map (iv .i64)) 1 rfl (flat_int _) (by rw [List.length_map]; omega) (by rw [List.length_map]; omega)
             have htk : List.take l.length (List.map (iv .i64) l) = List.map (iv .i64) l := List.take_of_length_le (by simp)
             rw [List.length_map] at hap3
             simp only [List.length_nil, Nat.zero_add, List.nil_append, List.length_singleton] at hap2
             simp only [List.take_zero, List.nil_append, List.drop_zero] at hTv
             replace hTv : Hide _ := hTv
             repeat' (first | (refine zD fun K hK => ?_) | (refine zA fun K hK => ?_; simp (disch := omega) [go_sem, *]) | (refine zX mixed (by kernel_rfl) fun K hK => ?_; simp (disch := omega) [go_sem, *, zL]) | (apply Hide.out hK; clear hK K; try with_reducible dsimp only [zC]) | (apply Hide.out hf; clear ht hf Kt Kf) | (clear hK K; apply Hide.out hK; clear hK K; try with_reducible dsimp only [zC]) | (refine zI ?_; simp only [zC]) | (refine zS ?_; simp only [zC, zF, if_true]) | (refine zE fun Kt Kf ht hf => ?_; simp (disch := omega) [go_sem, *]; try (refine ⟨fun hc => ?_, fun hc => ?_⟩ <;> try (exfalso; omega))))
             refine zM ?_
             try dsimp only [zC, zF]
             refine ⟨by simp, _, (by first | rfl | (simp (disch := omega) [go_sem, zB] <;> rfl)), ?_⟩
             rw [hTv.out]
             refine ret_introw (ts := v :: l) (by simp (disch := omega) [zN]) (by simp; try omega) ?_
             refine zJ ⟨fun k hk => ?_, ?_, rfl, by simp, by simp⟩
             · simp (disch := omega) only [zB]
             · simp [below, below_int, - List.map_append, - List.map_cons]
           replace hTv : Hide _ := hTv
           have hlen : (List.take i (List.map (iv .i64) l)).length = i := by rw [List.length_take, List.length_map]; omega
           have htk : List.take l.length (List.map (iv .i64) l) = List.map (iv .i64) l := List.take_of_length_le (by simp)
           have hld : (List.drop i (List.map (iv .i64) l)).length = l.length - i := by rw [List.length_drop, List.length_map]
           have hap1 := fun nm (h0 : AHeap) (a b c : Bool) => ap49_F nm h0 a b c [] (List.take i (l.map (iv .i64))) rfl (by rw [← List.map_take]; exact flat_int _) (by omega) (by rw [hlen]; simp; omega)
           have hap2 := fun nm nm1 (h0 : AHeap) (b c : Bool) => ap49_S nm nm1 h0 b c (List.take i (l.map (iv .i64))) [iv .i64 v] i hlen rfl (by simp) (by simp; omega)
           have hap3 := fun nm nm1 (h0 : AHeap) (b c : Bool) => ap49_S nm nm1 h0 b c (List.take i (l.map (iv .i64)) ++ [iv .i64 v]) (List.drop i (l.map (iv .i64))) (i + 1) (by rw [List.length_append, hlen]; rfl) (by rw [← List.map_drop]; exact flat_int _) (by omega) (by omega)
           rw [hlen] at hap1
           rw [hld] at hap3
           simp only [List.length_nil, Nat.zero_add, List.nil_append, List.length_singleton] at hap1 hap2
           repeat' (first | (refine zD fun K hK => ?_) | (refine zA fun K hK => ?_; simp (disch := omega) [go_sem, *, zH, zL]) | (refine zX mixed (by kernel_rfl) fun K hK => ?_; simp (disch := omega) [go_sem, *, zL]) | (apply Hide.out hK; clear hK K; try with_reducible dsimp only [zC]) | (apply Hide.out hf; clear ht hf Kt Kf) | (clear hK K; apply Hide.out hK; clear hK K; try with_reducible dsimp only [zC]) | (refine zI ?_; simp only [zC]) | (refine zS ?_; simp only [zC, zF, if_true]) | (refine zE fun Kt Kf ht hf => ?_; simp (disch := omega) [go_sem, *]; try (refine ⟨fun hc => ?_, fun hc => ?_⟩ <;> try (exfalso; omega))))
           refine zM ?_
           try dsimp only [zC, zF]
           refine ⟨by simp, _, (by first | rfl | (simp (disch := omega) [go_sem, zB] <;> rfl)), ?_⟩
           rw [hTv.out]
           refine ret_introw (ts := l.take i ++ v :: l.drop i) (by simp (disch := omega) [zN]) (by simp; try omega) ?_
           refine zJ ⟨fun k hk => ?_, ?_, rfl, by simp, by simp⟩
           · simp (disch := omega) only [zB]
           · simp [below, below_int, - List.map_append, - List.map_cons]
   · have hii : i = l.length := by omega
     subst hii
     have hr := rins_at l v l.length (by omega) hall.out (fun y hy => by rw [List.getElem?_eq_none (Nat.le_refl _)] at hy; cases hy)
     have hTv : T = encI (if v > 10000 then l else if l[l.length]? = some v then l else l.take l.length ++ v :: l.drop l.length) := by rw [hT.out, radd, hr]
     clear hr
     rw [List.getElem?_eq_none (Nat.le_refl _), List.take_length, List.drop_length] at hTv
     by_cases hbig : v > 10000
     · rw [if_pos hbig] at hTv
       subst hTv
       repeat' (first | (refine zD fun K hK => ?_) | (refine zA fun K hK => ?_; simp (disch := omega) [go_sem, *]) | (apply Hide.out hK; clear hK K; try with_reducible dsimp only [zC]) | (apply Hide.out ht; clear ht hf Kt Kf) | (apply Hide.out hf; clear ht hf Kt Kf) | (clear hK K; apply Hide.out hK; clear hK K; try with_reducible dsimp only [zC]) | (refine zS ?_; simp only [zC, zF, if_true]) | (refine zE fun Kt Kf ht hf => ?_; simp (disch := omega) [go_sem, *]; try (refine ⟨fun hc => ?_, fun hc => ?_⟩ <;> try (exfalso; omega))))
       (refine zM ?_; try dsimp only [zC, zF]; refine ⟨by simp, _, (by first | rfl | (simp (disch := omega) [go_sem, zB] <;> rfl)), ?_⟩; refine zJ ⟨fun k hk => (by first | rfl | (repeat rw [zB _ _ _ _ (by omega)])), (by simp [go_sem, below, below_int]), (by simp [go_sem] <;> omega), by simp, by simp⟩)
     · rw [if_neg hbig, if_neg (by simp)] at hTv
       clear hi hlt
       replace hTv : Hide _ := hTv
       by_cases hl0 : l = []
       · subst hl0
         have hap1 := fun nm (h0 : AHeap) (a b c : Bool) => ap49_0 nm h0 a b c []
         have hap2 := fun nm (h0 : AHeap) (a b c : Bool) => ap49_F nm h0 a b c [] [iv .i64 v] rfl rfl (by simp) (by simp)
         have hap3 := fun nm nm1 (h0 : AHeap) (b c : Bool) => ap49_S0 nm nm1 h0 b c [iv .i64 v] 1 rfl
         simp only [List.length_nil, Nat.zero_add, List.nil_append, List.length_singleton] at hap2
         repeat' (first | (refine zD fun K hK => ?_) | (refine zA fun K hK => ?_; simp (disch := omega) [go_sem, *]) | (refine zX mixed (by kernel_rfl) fun K hK => ?_; simp (disch := omega) [go_sem, *]) | (apply Hide.out hK; clear hK K; try with_reducible dsimp only [zC]) | (apply Hide.out hf; clear ht hf Kt Kf) | (clear hK K; apply Hide.out hK; clear hK K; try with_reducible dsimp only [zC]) | (refine zI ?_; simp only [zC]) | (refine zS ?_; simp only [zC, zF, if_true]) | (refine zE fun Kt Kf ht hf => ?_; simp (disch := omega) [go_sem, *]; try (refine ⟨fun hc => ?_, fun hc => ?_⟩ <;> try (exfalso; omega))))
         refine zM ?_
         try dsimp only [zC, zF]
         refine ⟨by simp, _, (by first | rfl | (simp (disch := omega) [go_sem, zB] <;> rfl)), ?_⟩
         rw [hTv.out]
         refine ret_introw (ts := [v]) (by simp (disch := omega) [zN]) (by simp; try omega) ?_
         refine zJ ⟨fun k hk => ?_, ?_, rfl, by simp, by simp⟩
         · simp (disch := omega) only [zB]
         · simp [below, below_int, - List.map_append, - List.map_cons]
       · have hl1 : l.length ≠ 0 := by simpa using hl0
         have htk : List.take l.length (List.map (iv .i64) l) = List.map (iv .i64) l := List.take_of_length_le (by simp)
         have hdk : List.drop l.length (List.map (iv .i64) l) = [] := List.drop_eq_nil_of_le (by simp)
         have hap1 := fun nm (h0 : AHeap) (a b c : Bool) => ap49_F nm h0 a b c [] (l.map (iv .i64)) rfl (flat_int _) (by rw [List.length_map]; omega) (by rw [List.length_map]; simp; omega)
         have hap2 := fun nm nm1 (h0 : AHeap) (b c : Bool) => ap49_S nm nm1 h0 b c (l.map (iv .i64)) [iv .i64 v] l.length (List.length_map _) rfl (by simp) (by simp; omega)
         have hap3 := fun nm nm1 (h0 : AHeap) (b c : Bool) => ap49_S0 nm nm1 h0 b c (l.map (iv .i64) ++ [iv .i64 v]) (l.length + 1) (by simp)
         rw [List.length_map] at hap1
         simp only [List.length_nil, Nat.zero_add, List.nil_append, List.length_singleton] at hap1 hap2
         repeat' (first | (refine zD fun K hK => ?_) | (refine zA fun K hK => ?_; simp (disch := omega) [go_sem, *]) | (refine zX mixed (by kernel_rfl) fun K hK => ?_; simp (disch := omega) [go_sem, *, zL]) | (apply Hide.out hK; clear hK K; try with_reducible dsimp only [zC]) | (apply Hide.out hf; clear ht hf Kt Kf) | (clear hK K; apply Hide.out hK; clear hK K; try with_reducible dsimp only [zC]) | (refine zI ?_; simp only [zC]) | (refine zS ?_; simp only [zC, zF, if_true]) | (refine zE fun Kt Kf ht hf => ?_; simp (disch := omega) [go_sem, *]; try (refine ⟨fun hc => ?_, fun hc => ?_⟩ <;> try (exfalso; omega))))
         refine zM ?_
         try dsimp only [zC, zF]
         refine ⟨by simp, _, (by first | rfl | (simp (disch := omega) [go_sem, zB] <;> rfl)), ?_⟩
         rw [hTv.out]
         refine ret_introw (ts := l ++ [v]) (by simp (disch := omega) [zN]) (by simp; try omega) ?_
         refine zJ ⟨fun k hk => ?_, ?_, rfl, by simp, by simp⟩
         · simp (disch := omega) only [zB]
         · simp [below, below_int, - List.map_append, - List.map_cons]
end Go.AM
namespace Go.AM
open Go.Proofs Cw
set_option maxRecDepth 10000
set_option maxHeartbeats 4000000
abbrev encN (a b c d e : List Int) : AV := .agg [encI a, encI b, encI c, encI d, encI e]
theorem length_rins (v : Int) : ∀ l : List Int, (rins l v).length ≤ l.length + 1
 | [] => by simp [rins]
 | x :: r => by
   have := length_rins v r
   simp only [rins]; split
   · simp only [List.length_cons]; omega
   · split <;> simp
theorem length_radd (v : Int) (l : List Int) : (radd l v).length ≤ l.length + 1 := by
 unfold radd; split
 · omega
 · exact length_rins v l
mutual
theorem length_coll (j : Int) : ∀ (x : Cnd) (l : List Int), (coll j x l).length ≤ l.length + 2 * tot x
 | .mk k f o v _ _ _ ks, l => by
   have h1 := length_radd v l
   have h2 := length_radd (v + 1) (radd l v)
   simp only [coll, tot]
   split
   · have := length_collL j ks (radd (radd l v) (v + 1)); omega
   · have := length_collL j ks l; omega
theorem length_collL (j : Int) : ∀ (cs : List Cnd) (l : List Int), (collL j cs l).length ≤ l.length + 2 * totL cs
 | [], l => by simp [collL]
 | x :: r, l => by
   have := length_coll j x l
   have := length_collL j r (coll j x l)
   simp only [collL, totL]; omega
end
theorem coll_leaf0 (a b c d e : List Int) (o v : Int) (nl fu : Bool) (s : Nat) (hv1 : 0 ≤ v) (hv2 : v ≤ 10000) (hl : a.length ≤ 99999) :
   APure Tryz.prog 112 [encN a b c d e, encC (.mk 1 0 o v nl fu s [])] (encN (radd (radd a v) (v + 1)) b c d e) := by
 intro h n
 have k1 := add_spec a v (by omega)
 have k2 := add_spec (radd a v) (v + 1) (by have := length_radd v a; omega)
 refine ACalls.pure (ACalls.entry (by kernel_rfl) fun hb _ => zO Tryz.func112 rfl (by kernel_rfl) (by simp [Tryz.ntmps112]) ?_)
 simp only [encC, encL]
 generalize radd (radd a v) (v + 1) = q at *
 generalize radd a v = r at *
 repeat' (first | (refine zD fun K hK => ?_) | (refine zA fun K hK => ?_; simp (disch := omega) [go_sem, *, zB, Tryz.ntmps112]) | (apply Hide.out hK; clear hK K; try with_reducible dsimp only [zC]) | (apply Hide.out ht; clear ht hf Kt Kf) | (refine zE fun Kt Kf ht hf => ?_; simp (disch := omega) [go_sem, *]; try (refine ⟨fun hc => ?_, fun hc => ?_⟩ <;> try (exfalso; omega))))
 refine zd [18] (fun h' => h' n = some (.cells [encI a, encI b, encI c, encI d, encI e]) ∧ h' (n + 1) = some (.cells [iv .i64 1, iv .i64 0, iv .i64 o, iv .i64 v, .fslc nl fu s []])) mixed (by kernel_rfl) (by simp (disch := omega) [go_sem, zB]) fun K hK => ?_
 simp (disch := omega) [go_sem, *]
 repeat' (first | (refine aC_c (by simp [go_sem]) (by decide) (fun h' hh => by (try dsimp only at hh); (try simp (disch := omega) [go_sem, *, zK, zH]); first | exact rfl | exact ⟨rfl, rfl, rfl⟩ | exact (k1).gcall ⟨rfl, rfl, rfl⟩ | exact (k2).gcall ⟨rfl, rfl, rfl⟩) ?_; try simp only [pS_some]) | (refine aC_x (by simp [go_sem]) (by decide) (by (try simp (disch := omega) [go_sem, *, zB]); first | exact rfl | exact ⟨rfl, rfl⟩ | exact ⟨rfl, rfl, rfl⟩ | exact (k1).gcall ⟨rfl, rfl, rfl⟩ | exact (k2).gcall ⟨rfl, rfl, rfl⟩) (by first | exact .inl rfl | (right; simp (disch := omega) [go_sem, zB])) ?_; try simp only [pS_none]) | (refine aC_end ?_; apply Hide.out hK; clear hK K; try with_reducible dsimp only [zC]))
 repeat' (first | (refine zD fun K hK => ?_) | (refine zA fun K hK => ?_; simp (disch := omega) [go_sem, *]) | (apply Hide.out hK; clear hK K; try with_reducible dsimp only [zC]) | (refine zG ?_))
 refine zP 1 ?_
 unfold zQ
 repeat' (first | (refine zD fun K hK => ?_) | (refine zA fun K hK => ?_; simp (disch := omega) [go_sem, *, zB]) | (apply Hide.out hK; clear hK K; try with_reducible dsimp only [zC]) | (apply Hide.out hf; clear ht hf Kt Kf) | (clear hK K; apply Hide.out hK; clear hK K; try with_reducible dsimp only [zC]) | (refine zS ?_; simp only [zC, zF, if_true]) | (refine zE fun Kt Kf ht hf => ?_; simp (disch := omega) [go_sem, *]; try (refine ⟨fun hc => ?_, fun hc => ?_⟩ <;> try (exfalso; omega))))
 (refine zM ?_; try dsimp only [zC, zF]; refine ⟨by simp, _, (by first | rfl | (simp (disch := omega) [go_sem] <;> rfl)), ?_⟩; refine zJ ⟨fun k hk => (by first | rfl | (repeat rw [zB _ _ _ _ (by omega)])), (by simp [go_sem, below, zR, below_int]), (by simp [go_sem] <;> omega), by simp, by simp⟩)
theorem coll_leaf1 (a b c d e : List Int) (o v : Int) (nl fu : Bool) (s : Nat) (hv1 : 0 ≤ v) (hv2 : v ≤ 10000) (hl : b.length ≤ 99999) :
   APure Tryz.prog 112 [encN a b c d e, encC (.mk 1 1 o v nl fu s [])] (encN a (radd (radd b v) (v + 1)) c d e) := by
 intro h n
 have k1 := add_spec b v (by omega)
 have k2 := add_spec (radd b v) (v + 1) (by have := length_radd v b; omega)
 refine ACalls.pure (ACalls.entry (by kernel_rfl) fun hb _ => zO Tryz.func112 rfl (by kernel_rfl) (by simp [Tryz.ntmps112]) ?_)
 simp only [encC, encL]
 generalize radd (radd b v) (v + 1) = q at *
 generalize radd b v = r at *
 repeat' (first | (refine zD fun K hK => ?_) | (refine zA fun K hK => ?_; simp (disch := omega) [go_sem, *, zB, Tryz.ntmps112]) | (apply Hide.out hK; clear hK K; try with_reducible dsimp only [zC]) | (apply Hide.out ht; clear ht hf Kt Kf) | (refine zE fun Kt Kf ht hf => ?_; simp (disch := omega) [go_sem, *]; try (refine ⟨fun hc => ?_, fun hc => ?_⟩ <;> try (exfalso; omega))))
 refine zd [18] (fun h' => h' n = some (.cells [encI a, encI b, encI c, encI d, encI e]) ∧ h' (n + 1) = some (.cells [iv .i64 1, iv .i64 1, iv .i64 o, iv .i64 v, .fslc nl fu s []])) mixed (by kernel_rfl) (by simp (disch := omega) [go_sem, zB]) fun K hK => ?_
 simp (disch := omega) [go_sem, *]
 repeat' (first | (refine aC_c (by simp [go_sem]) (by decide) (fun h' hh => by (try dsimp only at hh); (try simp (disch := omega) [go_sem, *, zK, zH, zL]); first | exact rfl | exact ⟨rfl, rfl, rfl⟩ | exact (k1).gcall ⟨rfl, rfl, rfl⟩ | exact (k2).gcall ⟨rfl, rfl, rfl⟩) ?_; try simp only [pS_some]) | (refine aC_x (by simp [go_sem]) (by decide) (by (try simp (disch := omega) [go_sem, *, zB]); first | exact rfl | exact ⟨rfl, rfl⟩ | exact ⟨rfl, rfl, rfl⟩ | exact (k1).gcall ⟨rfl, rfl, rfl⟩ | exact (k2).gcall ⟨rfl, rfl, rfl⟩) (by first | exact .inl rfl | (right; simp (disch := omega) [go_sem, zB])) ?_; try simp only [pS_none]) | (refine aC_end ?_; apply Hide.out hK; clear hK K; try with_reducible dsimp only [zC]))
 repeat' (first | (refine zD fun K hK => ?_) | (refine zA fun K hK => ?_; simp (disch := omega) [go_sem, *]) | (apply Hide.out hK; clear hK K; try with_reducible dsimp only [zC]) | (refine zG ?_))
 refine zP 1 ?_
 unfold zQ
 repeat' (first | (refine zD fun K hK => ?_) | (refine zA fun K hK => ?_; simp (disch := omega) [go_sem, *, zB]) | (apply Hide.out hK; clear hK K; try with_reducible dsimp only [zC]) | (apply Hide.out hf; clear ht hf Kt Kf) | (clear hK K; apply Hide.out hK; clear hK K; try with_reducible dsimp only [zC]) | (refine zS ?_; simp only [zC, zF, if_true]) | (refine zE fun Kt Kf ht hf => ?_; simp (disch := omega) [go_sem, *]; try (refine ⟨fun hc => ?_, fun hc => ?_⟩ <;> try (exfalso; omega))))
 (refine zM ?_; try dsimp only [zC, zF]; refine ⟨by simp, _, (by first | rfl | (simp (disch := omega) [go_sem] <;> rfl)), ?_⟩; refine zJ ⟨fun k hk => (by first | rfl | (repeat rw [zB _ _ _ _ (by omega)])), (by simp [go_sem, below, zR, below_int]), (by simp [go_sem] <;> omega), by simp, by simp⟩)
theorem coll_leaf2 (a b c d e : List Int) (o v : Int) (nl fu : Bool) (s : Nat) (hv1 : 0 ≤ v) (hv2 : v ≤ 10000) (hl : c.length ≤ 99999) :
   APure Tryz.prog 112 [encN a b c d e, encC (.mk 1 2 o v nl fu s [])] (encN a b (radd (radd c v) (v + 1)) d e) := by
 intro h n
 have k1 := add_spec c v (by omega)
 have k2 := add_spec (radd c v) (v + 1) (by have := length_radd v c; omega)
 refine ACalls.pure (ACalls.entry (by kernel_rfl) fun hb _ => zO Tryz.func112 rfl (by kernel_rfl) (by simp [Tryz.ntmps112]) ?_)
 simp only [encC, encL]
 generalize radd (radd c v) (v + 1) = q at *
 generalize radd c v = r at *
 repeat' (first | (refine zD fun K hK => ?_) | (refine zA fun K hK => ?_; simp (disch := omega) [go_sem, *, zB, Tryz.ntmps112]) | (apply Hide.out hK; clear hK K; try with_reducible dsimp only [zC]) | (apply Hide.out ht; clear ht hf Kt Kf) | (refine zE fun Kt Kf ht hf => ?_; simp (disch := omega) [go_sem, *]; try (refine ⟨fun hc => ?_, fun hc => ?_⟩ <;> try (exfalso; omega))))
 refine zd [18] (fun h' => h' n = some (.cells [encI a, encI b, encI c, encI d, encI e]) ∧ h' (n + 1) = some (.cells [iv .i64 1, iv .i64 2, iv .i64 o, iv .i64 v, .fslc nl fu s []])) mixed (by kernel_rfl) (by simp (disch := omega) [go_sem, zB]) fun K hK => ?_
 simp (disch := omega) [go_sem, *]
 repeat' (first | (refine aC_c (by simp [go_sem]) (by decide) (fun h' hh => by (try dsimp only at hh); (try simp (disch := omega) [go_sem, *, zK, zH, zL]); first | exact rfl | exact ⟨rfl, rfl, rfl⟩ | exact (k1).gcall ⟨rfl, rfl, rfl⟩ | exact (k2).gcall ⟨rfl, rfl, rfl⟩) ?_; try simp only [pS_some]) | (refine aC_x (by simp [go_sem]) (by decide) (by (try simp (disch := omega) [go_sem, *, zB]); first | exact rfl | exact ⟨rfl, rfl⟩ | exact ⟨rfl, rfl, rfl⟩ | exact (k1).gcall ⟨rfl, rfl, rfl⟩ | exact (k2).gcall ⟨rfl, rfl, rfl⟩) (by first | exact .inl rfl | (right; simp (disch := omega) [go_sem, zB])) ?_; try simp only [pS_none]) | (refine aC_end ?_; apply Hide.out hK; clear hK K; try with_reducible dsimp only [zC]))
 repeat' (first | (refine zD fun K hK => ?_) | (refine zA fun K hK => ?_; simp (disch := omega) [go_sem, *]) | (apply Hide.out hK; clear hK K; try with_reducible dsimp only [zC]) | (refine zG ?_))
 refine zP 1 ?_
 unfold zQ
 repeat' (first | (refine zD fun K hK => ?_) | (refine zA fun K hK => ?_; simp (disch := omega) [go_sem, *, zB]) | (apply Hide.out hK; clear hK K; try with_reducible dsimp only [zC]) | (apply Hide.out hf; clear ht hf Kt Kf) | (clear hK K; apply Hide.out hK; clear hK K; try with_reducible dsimp only [zC]) | (refine zS ?_; simp only [zC, zF, if_true]) | (refine zE fun Kt Kf ht hf => ?_; simp (disch := omega) [go_sem, *]; try (refine ⟨fun hc => ?_, fun hc => ?_⟩ <;> try (exfalso; omega))))
 (refine zM ?_; try dsimp only [zC, zF]; refine ⟨by simp, _, (by first | rfl | (simp (disch := omega) [go_sem] <;> rfl)), ?_⟩; refine zJ ⟨fun k hk => (by first | rfl | (repeat rw [zB _ _ _ _ (by omega)])), (by simp [go_sem, below, zR, below_int]), (by simp [go_sem] <;> omega), by simp, by simp⟩)
theorem coll_leaf3 (a b c d e : List Int) (o v : Int) (nl fu : Bool) (s : Nat) (hv1 : 0 ≤ v) (hv2 : v ≤ 10000) (hl : d.length ≤ 99999) :
   APure Tryz.prog 112 [encN a b c d e, encC (.mk 1 3 o v nl fu s [])] (encN a b c (radd (radd d v) (v + 1)) e) := by
 intro h n
 have k1 := add_spec d v (by omega)
 have k2 := add_spec (radd d v) (v + 1) (by have := length_radd v d; omega)
 refine ACalls.pure (ACalls.entry (by kernel_rfl) fun hb _ => zO Tryz.func112 rfl (by kernel_rfl) (by simp [Tryz.ntmps112]) ?_)
 simp only [encC, encL]
 generalize radd (radd d v) (v + 1) = q at *
 generalize radd d v = r at *
 repeat' (first | (refine zD fun K hK => ?_) | (refine zA fun K hK => ?_; simp (disch := omega) [go_sem, *, zB, Tryz.ntmps112]) | (apply Hide.out hK; clear hK K; try with_reducible dsimp only [zC]) | (apply Hide.out ht; clear ht hf Kt Kf) | (refine zE fun Kt Kf ht hf => ?_; simp (disch := omega) [go_sem, *]; try (refine ⟨fun hc => ?_, fun hc => ?_⟩ <;> try (exfalso; omega))))
 refine zd [18] (fun h' => h' n = some (.cells [encI a, encI b, encI c, encI d, encI e]) ∧ h' (n + 1) = some (.cells [iv .i64 1, iv .i64 3, iv .i64 o, iv .i64 v, .fslc nl fu s []])) mixed (by kernel_rfl) (by simp (disch := omega) [go_sem, zB]) fun K hK => ?_
 simp (disch := omega) [go_sem, *]
 repeat' (first | (refine aC_c (by simp [go_sem]) (by decide) (fun h' hh => by (try dsimp only at hh); (try simp (disch := omega) [go_sem, *, zK, zH, zL]); first | exact rfl | exact ⟨rfl, rfl, rfl⟩ | exact (k1).gcall ⟨rfl, rfl, rfl⟩ | exact (k2).gcall ⟨rfl, rfl, rfl⟩) ?_; try simp only [pS_some]) | (refine aC_x (by simp [go_sem]) (by decide) (by (try simp (disch := omega) [go_sem, *, zB]); first | exact rfl | exact ⟨rfl, rfl⟩ | exact ⟨rfl, rfl, rfl⟩ | exact (k1).gcall ⟨rfl, rfl, rfl⟩ | exact (k2).gcall ⟨rfl, rfl, rfl⟩) (by first | exact .inl rfl | (right; simp (disch := omega) [go_sem, zB])) ?_; try simp only [pS_none]) | (refine aC_end ?_; apply Hide.out hK; clear hK K; try with_reducible dsimp only [zC]))
 repeat' (first | (refine zD fun K hK => ?_) | (refine zA fun K hK => ?_; simp (disch := omega) [go_sem, *]) | (apply Hide.out hK; clear hK K; try with_reducible dsimp only [zC]) | (refine zG ?_))
 refine zP 1 ?_
 unfold zQ
 repeat' (first | (refine zD fun K hK => ?_) | (refine zA fun K hK => ?_; simp (disch := omega) [go_sem, *, zB]) | (apply Hide.out hK; clear hK K; try with_reducible dsimp only [zC]) | (apply Hide.out hf; clear ht hf Kt Kf) | (clear hK K; apply Hide.out hK; clear hK K; try with_reducible dsimp only [zC]) | (refine zS ?_; simp only [zC, zF, if_true]) | (refine zE fun Kt Kf ht hf => ?_; simp (disch := omega) [go_sem, *]; try (refine ⟨fun hc => ?_, fun hc => ?_⟩ <;> try (exfalso; omega))))
 (refine zM ?_; try dsimp only [zC, zF]; refine ⟨by simp, _, (by first | rfl | (simp (disch := omega) [go_sem] <;> rfl)), ?_⟩; refine zJ ⟨fun k hk => (by first | rfl | (repeat rw [zB _ _ _ _ (by omega)])), (by simp [go_sem, below, zR, below_int]), (by simp [go_sem] <;> omega), by simp, by simp⟩)
theorem coll_leaf4 (a b c d e : List Int) (o v : Int) (nl fu : Bool) (s : Nat) (hv1 : 0 ≤ v) (hv2 : v ≤ 10000) (hl : e.length ≤ 99999) :
   APure Tryz.prog 112 [encN a b c d e, encC (.mk 1 4 o v nl fu s [])] (encN a b c d (radd (radd e v) (v + 1))) := by
 intro h n
 have k1 := add_spec e v (by omega)
 have k2 := add_spec (radd e v) (v + 1) (by have := length_radd v e; omega)
 refine ACalls.pure (ACalls.entry (by kernel_rfl) fun hb _ => zO Tryz.func112 rfl (by kernel_rfl) (by simp [Tryz.ntmps112]) ?_)
 simp only [encC, encL]
 generalize radd (radd e v) (v + 1) = q at *
 generalize radd e v = r at *
 repeat' (first | (refine zD fun K hK => ?_) | (refine zA fun K hK => ?_; simp (disch := omega) [go_sem, *, zB, Tryz.ntmps112]) | (apply Hide.out hK; clear hK K; try with_reducible dsimp only [zC]) | (apply Hide.out ht; clear ht hf Kt Kf) | (refine zE fun Kt Kf ht hf => ?_; simp (disch := omega) [go_sem, *]; try (refine ⟨fun hc => ?_, fun hc => ?_⟩ <;> try (exfalso; omega))))
 refine zd [18] (fun h' => h' n = some (.cells [encI a, encI b, encI c, encI d, encI e]) ∧ h' (n + 1) = some (.cells [iv .i64 1, iv .i64 4, iv .i64 o, iv .i64 v, .fslc nl fu s []])) mixed (by kernel_rfl) (by simp (disch := omega) [go_sem, zB]) fun K hK => ?_
 simp (disch := omega) [go_sem, *]
 repeat' (first | (refine aC_c (by simp [go_sem]) (by decide) (fun h' hh => by (try dsimp only at hh); (try simp (disch := omega) [go_sem, *, zK, zH, zL]); first | exact rfl | exact ⟨rfl, rfl, rfl⟩ | exact (k1).gcall ⟨rfl, rfl, rfl⟩ | exact (k2).gcall ⟨rfl, rfl, rfl⟩) ?_; try simp only [pS_some]) | (refine aC_x (by simp [go_sem]) (by decide) (by (try simp (disch := omega) [go_sem, *, zB]); first | exact rfl | exact ⟨rfl, rfl⟩ | exact ⟨rfl, rfl, rfl⟩ | exact (k1).gcall ⟨rfl, rfl, rfl⟩ | exact (k2).gcall ⟨rfl, rfl, rfl⟩) (by first | exact .inl rfl | (right; simp (disch := omega) [go_sem, zB])) ?_; try simp only [pS_none]) | (refine aC_end ?_; apply Hide.out hK; clear hK K; try with_reducible dsimp only [zC]))
 repeat' (first | (refine zD fun K hK => ?_) | (refine zA fun K hK => ?_; simp (disch := omega) [go_sem, *]) | (apply Hide.out hK; clear hK K; try with_reducible dsimp only [zC]) | (refine zG ?_))
 refine zP 1 ?_
 unfold zQ
 repeat' (first | (refine zD fun K hK => ?_) | (refine zA fun K hK => ?_; simp (disch := omega) [go_sem, *, zB]) | (apply Hide.out hK; clear hK K; try with_reducible dsimp only [zC]) | (apply Hide.out hf; clear ht hf Kt Kf) | (clear hK K; apply Hide.out hK; clear hK K; try with_reducible dsimp only [zC]) | (refine zS ?_; simp only [zC, zF, if_true]) | (refine zE fun Kt Kf ht hf => ?_; simp (disch := omega) [go_sem, *]; try (refine ⟨fun hc => ?_, fun hc => ?_⟩ <;> try (exfalso; omega))))
 (refine zM ?_; try dsimp only [zC, zF]; refine ⟨by simp, _, (by first | rfl | (simp (disch := omega) [go_sem] <;> rfl)), ?_⟩; refine zJ ⟨fun k hk => (by first | rfl | (repeat rw [zB _ _ _ _ (by omega)])), (by simp [go_sem, below, zR, below_int]), (by simp [go_sem] <;> omega), by simp, by simp⟩)
theorem coll_one (k : Int) (hk : (k == 1) = false) (a b c d e a1 b1 c1 d1 e1 : List Int) (fu : Bool) (x : Cnd) (kx : APure Tryz.prog 112 [encN a b c d e, encC x] (encN a1 b1 c1 d1 e1)) :
   APure Tryz.prog 112 [encN a b c d e, encC (.mk k 0 0 0 false fu 5 [x])] (encN a1 b1 c1 d1 e1) := by
 intro h n
 refine ACalls.pure (ACalls.entry (by kernel_rfl) fun hb _ => zO Tryz.func112 rfl (by kernel_rfl) (by simp [Tryz.ntmps112]) ?_)
 obtain ⟨xk, xf, xo, xn, xnl, xfu, xsz, xks⟩ := x
 simp only [encC, encL] at kx ⊢
 repeat' (first | (refine zD fun K hK => ?_) | (refine zA fun K hK => ?_; simp (disch := omega) [go_sem, *, zB, Tryz.ntmps112]) | (apply Hide.out hK; clear hK K; try with_reducible dsimp only [zC]) | (apply Hide.out hf; clear ht hf Kt Kf) | (refine zG ?_) | (refine zI ?_; simp only [zC]) | (refine zE fun Kt Kf ht hf => ?_; simp (disch := omega) [go_sem, *]; try (refine ⟨fun hc => ?_, fun hc => ?_⟩ <;> try (exfalso; omega))))
 refine zP 2 ?_
 unfold zQ
 repeat' (first | (refine zD fun K hK => ?_) | (refine zA fun K hK => ?_; simp (disch := omega) [go_sem, *, zB, zH]) | (apply Hide.out hK; clear hK K; try with_reducible dsimp only [zC]) | (apply Hide.out ht; clear ht hf Kt Kf) | (refine zG ?_) | (refine zI ?_; simp only [zC]) | (refine zE fun Kt Kf ht hf => ?_; simp (disch := omega) [go_sem, *]; try (refine ⟨fun hc => ?_, fun hc => ?_⟩ <;> try (exfalso; omega))))
 refine zd [7] (fun h' => h' n = some (.cells [encI a, encI b, encI c, encI d, encI e]) ∧ h' (n + 1) = some (.cells [iv .i64 k, iv .i64 0, iv .i64 0, iv .i64 0, .fslc false fu 5 [.agg [iv .i64 xk, iv .i64 xf, iv .i64 xo, iv .i64 xn, .fslc xnl xfu xsz (encL xks)]]])) mixed (by kernel_rfl) (by simp (disch := omega) [go_sem, zB]) fun K hK => ?_
 simp (disch := omega) [go_sem, *]
 repeat' (first | (refine aC_c (by simp [go_sem]) (by decide) (fun h' hh => by (try dsimp only at hh); (try simp (disch := omega) [go_sem, *]); first | exact rfl | exact ⟨rfl, rfl, rfl⟩ | exact (kx).gcall ⟨rfl, rfl, rfl⟩) ?_; try simp only [pS_some]) | (refine aC_x (by simp [go_sem]) (by decide) (by (try simp (disch := omega) [go_sem, *, zB]); first | exact rfl | exact ⟨rfl, rfl⟩ | exact ⟨rfl, rfl, rfl⟩ | exact (kx).gcall ⟨rfl, rfl, rfl⟩) (by first | exact .inl rfl | (right; simp (disch := omega) [go_sem, zB])) ?_; try simp only [pS_none]) | (refine aC_end ?_; apply Hide.out hK; clear hK K; try with_reducible dsimp only [zC]))
 repeat' (first | (refine zD fun K hK => ?_) | (refine zA fun K hK => ?_; simp (disch := omega) [go_sem, *, zK, zB]) | (apply Hide.out hK; clear hK K; try with_reducible dsimp only [zC]) | (apply Hide.out hf; clear ht hf Kt Kf) | (clear hK K; apply Hide.out hK; clear hK K; try with_reducible dsimp only [zC]) | (refine zS ?_; simp only [zC, zF, if_true]) | (refine zE fun Kt Kf ht hf => ?_; simp (disch := omega) [go_sem, *]; try (refine ⟨fun hc => ?_, fun hc => ?_⟩ <;> try (exfalso; omega))))
 (refine zM ?_; try dsimp only [zC, zF]; refine ⟨by simp, _, (by first | rfl | (simp (disch := omega) [go_sem] <;> rfl)), ?_⟩; refine zJ ⟨fun k hk => (by first | rfl | (repeat rw [zB _ _ _ _ (by omega)])), (by simp [go_sem, below, zR, below_int]), (by simp [go_sem] <;> omega), by simp, by simp⟩)
theorem coll_two (k : Int) (hk : (k == 1) = false) (a b c d e a1 b1 c1 d1 e1 a2 b2 c2 d2 e2 : List Int) (fu : Bool) (x y : Cnd) (kx : APure Tryz.prog 112 [encN a b c d e, encC x] (encN a1 b1 c1 d1 e1)) (ky : APure Tryz.prog 112 [encN a1 b1 c1 d1 e1, encC y] (encN a2 b2 c2 d2 e2)) :
   APure Tryz.prog 112 [encN a b c d e, encC (.mk k 0 0 0 false fu 5 [x, y])] (encN a2 b2 c2 d2 e2) := by
 intro h n
 refine ACalls.pure (ACalls.entry (by kernel_rfl) fun hb _ => zO Tryz.func112 rfl (by kernel_rfl) (by simp [Tryz.ntmps112]) ?_)
 obtain ⟨xk, xf, xo, xn, xnl, xfu, xsz, xks⟩ := x
 obtain ⟨yk, yf, yo, yn, ynl, yfu, ysz, yks⟩ := y
 simp only [encC, encL] at kx ky ⊢
 repeat' (first | (refine zD fun K hK => ?_) | (refine zA fun K hK => ?_; simp (disch := omega) [go_sem, *, zB, Tryz.ntmps112]) | (apply Hide.out hK; clear hK K; try with_reducible dsimp only [zC]) | (apply Hide.out hf; clear ht hf Kt Kf) | (refine zG ?_) | (refine zI ?_; simp only [zC]) | (refine zE fun Kt Kf ht hf => ?_; simp (disch := omega) [go_sem, *]; try (refine ⟨fun hc => ?_, fun hc => ?_⟩ <;> try (exfalso; omega))))
 refine zP 3 ?_
 unfold zQ
 repeat' (first | (refine zD fun K hK => ?_) | (refine zA fun K hK => ?_; simp (disch := omega) [go_sem, *, zB, zH]) | (apply Hide.out hK; clear hK K; try with_reducible dsimp only [zC]) | (apply Hide.out ht; clear ht hf Kt Kf) | (refine zG ?_) | (refine zI ?_; simp only [zC]) | (refine zE fun Kt Kf ht hf => ?_; simp (disch := omega) [go_sem, *]; try (refine ⟨fun hc => ?_, fun hc => ?_⟩ <;> try (exfalso; omega))))
 refine zd [7] (fun h' => h' n = some (.cells [encI a, encI b, encI c, encI d, encI e]) ∧ h' (n + 1) = some (.cells [iv .i64 k, iv .i64 0, iv .i64 0, iv .i64 0, .fslc false fu 5 [.agg [iv .i64 xk, iv .i64 xf, iv .i64 xo, iv .i64 xn, .fslc xnl xfu xsz (encL xks)], .agg [iv .i64 yk, iv .i64 yf, iv .i64 yo, iv .i64 yn, .fslc ynl yfu ysz (encL yks)]]])) mixed (by kernel_rfl) (by simp (disch := omega) [go_sem, zB]) fun K hK => ?_
 simp (disch := omega) [go_sem, *]
 repeat' (first | (refine aC_c (by simp [go_sem]) (by decide) (fun h' hh => by (try dsimp only at hh); (try simp (disch := omega) [go_sem, *]); first | exact rfl | exact ⟨rfl, rfl, rfl⟩ | exact (kx).gcall ⟨rfl, rfl, rfl⟩) ?_; try simp only [pS_some]) | (refine aC_x (by simp [go_sem]) (by decide) (by (try simp (disch := omega) [go_sem, *, zB]); first | exact rfl | exact ⟨rfl, rfl⟩ | exact ⟨rfl, rfl, rfl⟩ | exact (kx).gcall ⟨rfl, rfl, rfl⟩) (by first | exact .inl rfl | (right; simp (disch := omega) [go_sem, zB])) ?_; try simp only [pS_none]) | (refine aC_end ?_; apply Hide.out hK; clear hK K; try with_reducible dsimp only [zC]))
 repeat' (first | (refine zD fun K hK => ?_) | (refine zA fun K hK => ?_; simp (disch := omega) [go_sem, *, zK, zB, zH]) | (apply Hide.out hK; clear hK K; try with_reducible dsimp only [zC]) | (apply Hide.out ht; clear ht hf Kt Kf) | (refine zG ?_) | (refine zI ?_; simp only [zC]) | (refine zE fun Kt Kf ht hf => ?_; simp (disch := omega) [go_sem, *]; try (refine ⟨fun hc => ?_, fun hc => ?_⟩ <;> try (exfalso; omega))))
 refine zd [7] (fun h' => h' n = some (.cells [encI a1, encI b1, encI c1, encI d1, encI e1]) ∧ h' (n + 1) = some (.cells [iv .i64 k, iv .i64 0, iv .i64 0, iv .i64 0, .fslc false fu 5 [.agg [iv .i64 xk, iv .i64 xf, iv .i64 xo, iv .i64 xn, .fslc xnl xfu xsz (encL xks)], .agg [iv .i64 yk, iv .i64 yf, iv .i64 yo, iv .i64 yn, .fslc ynl yfu ysz (encL yks)]]])) mixed (by kernel_rfl) (by simp (disch := omega) [go_sem, zB]) fun K hK => ?_
 simp (disch := omega) [go_sem, *]
 repeat' (first | (refine aC_c (by simp [go_sem]) (by decide) (fun h' hh => by (try dsimp only at hh); (try simp (disch := omega) [go_sem, *, zL]); first | exact rfl | exact ⟨rfl, rfl, rfl⟩ | exact (ky).gcall ⟨rfl, rfl, rfl⟩) ?_; try simp only [pS_some]) | (refine aC_x (by simp [go_sem]) (by decide) (by (try simp (disch := omega) [go_sem, *]); first | exact rfl | exact ⟨rfl, rfl⟩ | exact ⟨rfl, rfl, rfl⟩ | exact (ky).gcall ⟨rfl, rfl, rfl⟩) (by first | exact .inl rfl | (right; simp (disch := omega) [go_sem, zB])) ?_; try simp only [pS_none]) | (refine aC_end ?_; apply Hide.out hK; clear hK K; try with_reducible dsimp only [zC]))
 repeat' (first | (refine zD fun K hK => ?_) | (refine zA fun K hK => ?_; simp (disch := omega) [go_sem, *, zK, zB]) | (apply Hide.out hK; clear hK K; try with_reducible dsimp only [zC]) | (apply Hide.out hf; clear ht hf Kt Kf) | (clear hK K; apply Hide.out hK; clear hK K; try with_reducible dsimp only [zC]) | (refine zS ?_; simp only [zC, zF, if_true]) | (refine zE fun Kt Kf ht hf => ?_; simp (disch := omega) [go_sem, *]; try (refine ⟨fun hc => ?_, fun hc => ?_⟩ <;> try (exfalso; omega))))
 (refine zM ?_; try dsimp only [zC, zF]; refine ⟨by simp, _, (by first | rfl | (simp (disch := omega) [go_sem] <;> rfl)), ?_⟩; refine zJ ⟨fun k hk => (by first | rfl | (repeat rw [zB _ _ _ _ (by omega)])), (by simp [go_sem, below, zR, below_int]), (by simp [go_sem] <;> omega), by simp, by simp⟩)
theorem collect_spec : ∀ (N : Nat) (x : Cnd), tot x ≤ N → N ≤ 1000 → wf x → ok x = true → ∀ (a b c d e : List Int), a.length + 2 * tot x ≤ 99999 → b.length + 2 * tot x ≤ 99999 → c.length + 2 * tot x ≤ 99999 → d.length + 2 * tot x ≤ 99999 → e.length + 2 * tot x ≤ 99999 →
   APure Tryz.prog 112 [encN a b c d e, encC x] (encN (coll 0 x a) (coll 1 x b) (coll 2 x c) (coll 3 x d) (coll 4 x e))
 | 0, x, hN, _, _, _ => by have := tot_pos x; omega
 | N + 1, .mk k f o v nl fu s ks, hN, hN2, hw, hok => by
   intro a b c d e ha hb hc hd he
   rcases ok_cases hok with ⟨rfl, rfl, hf, ho, hv⟩ | ⟨rfl, x, rfl, hx, rfl, rfl, rfl⟩ | ⟨hk, x, y, rfl, hx, hy, rfl, rfl, rfl⟩
   · simp only [wi, Bool.and_eq_true, decide_eq_true_eq] at hf hv
     simp only [tot, totL] at ha hb hc hd he
     have hf5 : f = 0 ∨ f = 1 ∨ f = 2 ∨ f = 3 ∨ f = 4 := by omega
     rcases hf5 with rfl | rfl | rfl | rfl | rfl
     · simpa [coll, collL] using coll_leaf0 a b c d e o v nl fu s hv.1 hv.2 (by omega)
     · simpa [coll, collL] using coll_leaf1 a b c d e o v nl fu s hv.1 hv.2 (by omega)
     · simpa [coll, collL] using coll_leaf2 a b c d e o v nl fu s hv.1 hv.2 (by omega)
     · simpa [coll, collL] using coll_leaf3 a b c d e o v nl fu s hv.1 hv.2 (by omega)
     · simpa [coll, collL] using coll_leaf4 a b c d e o v nl fu s hv.1 hv.2 (by omega)
   · obtain ⟨rfl, rfl⟩ := hw.1.resolve_left (by simp)
     simp only [tot, totL] at ha hb hc hd he hN
     have := collect_spec N x (by omega) (by omega) hw.2.1 hx a b c d e (by omega) (by omega) (by omega) (by omega) (by omega)
     have := coll_one 2 rfl _ _ _ _ _ _ _ _ _ _ fu x this
     simpa [coll, collL] using this
   · obtain ⟨rfl, rfl⟩ := hw.1.resolve_left (by simp)
     simp only [tot, totL] at ha hb hc hd he hN
     have hx1 := collect_spec N x (by omega) (by omega) hw.2.1 hx a b c d e (by omega) (by omega) (by omega) (by omega) (by omega)
     have l0 := length_coll 0 x a
     have l1 := length_coll 1 x b
     have l2 := length_coll 2 x c
     have l3 := length_coll 3 x d
     have l4 := length_coll 4 x e
     have hy1 := collect_spec N y (by omega) (by omega) hw.2.2.1 hy _ _ _ _ _ (Nat.le_trans (Nat.add_le_add_right l0 _) (by omega)) (Nat.le_trans (Nat.add_le_add_right l1 _) (by omega)) (Nat.le_trans (Nat.add_le_add_right l2 _) (by omega)) (Nat.le_trans (Nat.add_le_add_right l3 _) (by omega)) (Nat.le_trans (Nat.add_le_add_right l4 _) (by omega))
     have hk1 : (k == 1) = false := by rcases hk with rfl | rfl <;> rfl
     have := coll_two k hk1 _ _ _ _ _ _ _ _ _ _ _ _ _ _ _ fu x y hx1 hy1
     have e1 : ¬ k = 1 := by omega
     simpa [coll, collL, e1] using this
end Go.AM
