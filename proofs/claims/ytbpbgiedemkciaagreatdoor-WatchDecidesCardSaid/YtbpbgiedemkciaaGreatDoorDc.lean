/- The specification's choices. Conditions: as each theorem says. -/
import Derived.Test.YtbpbgiedemkciaaGreatDoorDb
namespace Go.AM
open Go.Proofs Cw
set_option maxRecDepth 10000
set_option maxHeartbeats 4000000
theorem choice_spec (a b c d e : List Int) (ka kb kc kd ke : Nat) (xa xb xc xd xe : Int) (ha : a[ka]? = some xa) (hb' : b[kb]? = some xb) (hc : c[kc]? = some xc) (hd : d[kd]? = some xd) (he : e[ke]? = some xe) :
   APure Tryz.prog 65 [encN a b c d e, .agg [iv .i64 ka, iv .i64 kb, iv .i64 kc, iv .i64 kd, iv .i64 ke]] (encF ⟨xa, xb, xc, xd, xe⟩) := by
 intro h n
 refine ACalls.pure (ACalls.entry (by kernel_rfl) fun hb _ => zO Tryz.func65 rfl (by kernel_rfl) (by simp [Tryz.ntmps65]) ?_)
 repeat' (first | (refine zD fun K hK => ?_) | (refine zA fun K hK => ?_; simp (disch := omega) [go_sem, *, Tryz.ntmps65]) | (apply Hide.out hK; clear hK K; try with_reducible dsimp only [zC]) | (refine zG ?_))
 refine zP 6 ?_
 unfold zQ
 repeat' (first | (refine zD fun K hK => ?_) | (refine zA fun K hK => ?_; simp (disch := omega) [go_sem, *, zH]) | (apply Hide.out hK; clear hK K; try with_reducible dsimp only [zC]) | (apply Hide.out ht; clear ht hf Kt Kf) | (refine zG ?_) | (refine zI ?_; simp only [zC]) | (refine zE fun Kt Kf ht hf => ?_; simp (disch := omega) [go_sem, *]; try (refine ⟨fun hc => ?_, fun hc => ?_⟩ <;> try (exfalso; omega))))
 refine zd [12] (fun h' => h' n = some (.cells [encI a, encI b, encI c, encI d, encI e]) ∧ h' (n + 1) = some (.cells [iv .i64 ka, iv .i64 kb, iv .i64 kc, iv .i64 kd, iv .i64 ke])) mixed (by kernel_rfl) (by simp (disch := omega) [go_sem, zB]) fun K hK => ?_
 simp (disch := omega) [go_sem, *]
 repeat' (first | (refine aC_c (by simp [go_sem]) (by decide) (fun h' hh => by (try dsimp only at hh); (try simp (disch := omega) [go_sem, *, zH, zL]); first | exact rfl | exact ⟨rfl, rfl, rfl⟩) ?_; try simp only [pS_some]) | (refine aC_x (by simp [go_sem]) (by decide) (by (try simp (disch := omega) [go_sem, *]); first | exact rfl | exact ⟨rfl, rfl⟩ | exact ⟨rfl, rfl, rfl⟩) (by first | exact .inl rfl | (right; simp (disch := omega) [go_sem, zB])) ?_; try simp only [pS_none]) | (refine aC_end ?_; apply Hide.out hK; clear hK K; try with_reducible dsimp only [zC]))
 repeat' (first | (refine zD fun K hK => ?_) | (refine zA fun K hK => ?_; simp (disch := omega) [go_sem, *, zK, zH]) | (apply Hide.out hK; clear hK K; try with_reducible dsimp only [zC]) | (apply Hide.out ht; clear ht hf Kt Kf) | (refine zG ?_) | (refine zI ?_; simp only [zC]) | (refine zE fun Kt Kf ht hf => ?_; simp (disch := omega) [go_sem, *]; try (refine ⟨fun hc => ?_, fun hc => ?_⟩ <;> try (exfalso; omega))))
 refine zd [12] (fun h' => h' n = some (.cells [encI a, encI b, encI c, encI d, encI e]) ∧ h' (n + 1) = some (.cells [iv .i64 ka, iv .i64 kb, iv .i64 kc, iv .i64 kd, iv .i64 ke])) mixed (by kernel_rfl) (by simp (disch := omega) [go_sem, zB]) fun K hK => ?_
 simp (disch := omega) [go_sem, *]
 repeat' (first | (refine aC_c (by simp [go_sem]) (by decide) (fun h' hh => by (try dsimp only at hh); (try simp (disch := omega) [go_sem, *, zH, zL]); first | exact rfl | exact ⟨rfl, rfl, rfl⟩) ?_; try simp only [pS_some]) | (refine aC_x (by simp [go_sem]) (by decide) (by (try simp (disch := omega) [go_sem, *]); first | exact rfl | exact ⟨rfl, rfl⟩ | exact ⟨rfl, rfl, rfl⟩) (by first | exact .inl rfl | (right; simp (disch := omega) [go_sem, zB])) ?_; try simp only [pS_none]) | (refine aC_end ?_; apply Hide.out hK; clear hK K; try with_reducible dsimp only [zC]))
 repeat' (first | (refine zD fun K hK => ?_) | (refine zA fun K hK => ?_; simp (disch := omega) [go_sem, *, zK, zH]) | (apply Hide.out hK; clear hK K; try with_reducible dsimp only [zC]) | (apply Hide.out ht; clear ht hf Kt Kf) | (refine zG ?_) | (refine zI ?_; simp only [zC]) | (refine zE fun Kt Kf ht hf => ?_; simp (disch := omega) [go_sem, *]; try (refine ⟨fun hc => ?_, fun hc => ?_⟩ <;> try (exfalso; omega))))
 refine zd [12] (fun h' => h' n = some (.cells [encI a, encI b, encI c, encI d, encI e]) ∧ h' (n + 1) = some (.cells [iv .i64 ka, iv .i64 kb, iv .i64 kc, iv .i64 kd, iv .i64 ke])) mixed (by kernel_rfl) (by simp (disch := omega) [go_sem, zB]) fun K hK => ?_
 simp (disch := omega) [go_sem, *]
 repeat' (first | (refine aC_c (by simp [go_sem]) (by decide) (fun h' hh => by (try dsimp only at hh); (try simp (disch := omega) [go_sem, *, zH, zL]); first | exact rfl | exact ⟨rfl, rfl, rfl⟩) ?_; try simp only [pS_some]) | (refine aC_x (by simp [go_sem]) (by decide) (by (try simp (disch := omega) [go_sem, *]); first | exact rfl | exact ⟨rfl, rfl⟩ | exact ⟨rfl, rfl, rfl⟩) (by first | exact .inl rfl | (right; simp (disch := omega) [go_sem, zB])) ?_; try simp only [pS_none]) | (refine aC_end ?_; apply Hide.out hK; clear hK K; try with_reducible dsimp only [zC]))
 repeat' (first | (refine zD fun K hK => ?_) | (refine zA fun K hK => ?_; simp (disch := omega) [go_sem, *, zK, zH]) | (apply Hide.out hK; clear hK K; try with_reducible dsimp only [zC]) | (apply Hide.out ht; clear ht hf Kt Kf) | (refine zG ?_) | (refine zI ?_; simp only [zC]) | (refine zE fun Kt Kf ht hf => ?_; simp (disch := omega) [go_sem, *]; try (refine ⟨fun hc => ?_, fun hc => ?_⟩ <;> try (exfalso; omega))))
 refine zd [12] (fun h' => h' n = some (.cells [encI a, encI b, encI c, encI d, encI e]) ∧ h' (n + 1) = some (.cells [iv .i64 ka, iv .i64 kb, iv .i64 kc, iv .i64 kd, iv .i64 ke])) mixed (by kernel_rfl) (by simp (disch := omega) [go_sem, zB]) fun K hK => ?_
 simp (disch := omega) [go_sem, *]
 repeat' (first | (refine aC_c (by simp [go_sem]) (by decide) (fun h' hh => by (try dsimp only at hh); (try simp (disch := omega) [go_sem, *, zH, zL]); first | exact rfl | exact ⟨rfl, rfl, rfl⟩) ?_; try simp only [pS_some]) | (refine aC_x (by simp [go_sem]) (by decide) (by (try simp (disch := omega) [go_sem, *]); first | exact rfl | exact ⟨rfl, rfl⟩ | exact ⟨rfl, rfl, rfl⟩) (by first | exact .inl rfl | (right; simp (disch := omega) [go_sem, zB])) ?_; try simp only [pS_none]) | (refine aC_end ?_; apply Hide.out hK; clear hK K; try with_reducible dsimp only [zC]))
 repeat' (first | (refine zD fun K hK => ?_) | (refine zA fun K hK => ?_; simp (disch := omega) [go_sem, *, zK, zH]) | (apply Hide.out hK; clear hK K; try with_reducible dsimp only [zC]) | (apply Hide.out ht; clear ht hf Kt Kf) | (refine zG ?_) | (refine zI ?_; simp only [zC]) | (refine zE fun Kt Kf ht hf => ?_; simp (disch := omega) [go_sem, *]; try (refine ⟨fun hc => ?_, fun hc => ?_⟩ <;> try (exfalso; omega))))
 refine zd [12] (fun h' => h' n = some (.cells [encI a, encI b, encI c, encI d, encI e]) ∧ h' (n + 1) = some (.cells [iv .i64 ka, iv .i64 kb, iv .i64 kc, iv .i64 kd, iv .i64 ke])) mixed (by kernel_rfl) (by simp (disch := omega) [go_sem, zB]) fun K hK => ?_
 simp (disch := omega) [go_sem, *]
 repeat' (first | (refine aC_c (by simp [go_sem]) (by decide) (fun h' hh => by (try dsimp only at hh); (try simp (disch := omega) [go_sem, *, zH, zL]); first | exact rfl | exact ⟨rfl, rfl, rfl⟩) ?_; try simp only [pS_some]) | (refine aC_x (by simp [go_sem]) (by decide) (by (try simp (disch := omega) [go_sem, *]); first | exact rfl | exact ⟨rfl, rfl⟩ | exact ⟨rfl, rfl, rfl⟩) (by first | exact .inl rfl | (right; simp (disch := omega) [go_sem, zB])) ?_; try simp only [pS_none]) | (refine aC_end ?_; apply Hide.out hK; clear hK K; try with_reducible dsimp only [zC]))
 repeat' (first | (refine zD fun K hK => ?_) | (refine zA fun K hK => ?_; simp (disch := omega) [go_sem, *, zK, zB]) | (apply Hide.out hK; clear hK K; try with_reducible dsimp only [zC]) | (apply Hide.out hf; clear ht hf Kt Kf) | (clear hK K; apply Hide.out hK; clear hK K; try with_reducible dsimp only [zC]) | (refine zS ?_; simp only [zC, zF, if_true]) | (refine zE fun Kt Kf ht hf => ?_; simp (disch := omega) [go_sem, *]; try (refine ⟨fun hc => ?_, fun hc => ?_⟩ <;> try (exfalso; omega))))
 (refine zM ?_; try dsimp only [zC, zF]; refine ⟨by simp, _, (by first | rfl | (simp (disch := omega) [go_sem] <;> rfl)), ?_⟩; refine zJ ⟨fun k hk => (by first | rfl | (repeat rw [zB _ _ _ _ (by omega)])), (by simp [go_sem, below, zR]), (by simp [go_sem] <;> omega), by simp, by simp⟩)
theorem next_e (a b c d e : List Int) (ka kb kc kd ke : Nat) (_hka : ka < 100000) (_hkb : kb < 100000) (_hkc : kc < 100000) (_hkd : kd < 100000) (hke : ke < 100000) (h4 : ke + 1 < e.length) :
   APure Tryz.prog 66 [encN a b c d e, .agg [iv .i64 ka, iv .i64 kb, iv .i64 kc, iv .i64 kd, iv .i64 ke]] (.tup [.agg [iv .i64 ka, iv .i64 kb, iv .i64 kc, iv .i64 kd, iv .i64 ((ke : Int) + 1)], bv true]) := by
 intro h n
 refine ACalls.pure (ACalls.entry (by kernel_rfl) fun hb _ => zO Tryz.func66 rfl (by kernel_rfl) (by simp [Tryz.ntmps66]) ?_)
 repeat' (first | (refine zD fun K hK => ?_) | (refine zA fun K hK => ?_; simp (disch := omega) [go_sem, *, Tryz.ntmps66]) | (apply Hide.out hK; clear hK K; try with_reducible dsimp only [zC]) | (refine zG ?_))
 refine zP 6 ?_
 unfold zQ
 repeat' (first | (refine zD fun K hK => ?_) | (refine zA fun K hK => ?_; simp (disch := omega) [go_sem, *, zK, zB, zH, zL]) | (refine zX mixed (by kernel_rfl) fun K hK => ?_; simp (disch := omega) [go_sem, *, zK, zB, zH, zL]) | (apply Hide.out hK; clear hK K; try with_reducible dsimp only [zC]) | (apply Hide.out ht; clear ht hf Kt Kf) | (refine zG ?_) | (refine zI ?_; simp only [zC]) | (refine zE fun Kt Kf ht hf => ?_; simp (disch := omega) [go_sem, *]; try (refine ⟨fun hc => ?_, fun hc => ?_⟩ <;> try (exfalso; omega))))
 refine zP 6 ?_
 unfold zQ
 repeat' (first | (refine zD fun K hK => ?_) | (refine zA fun K hK => ?_; simp (disch := omega) [go_sem, *, zB]) | (apply Hide.out hK; clear hK K; try with_reducible dsimp only [zC]) | (apply Hide.out hf; clear ht hf Kt Kf) | (clear hK K; apply Hide.out hK; clear hK K; try with_reducible dsimp only [zC]) | (refine zS ?_; simp only [zC, zF, if_true, if_false, Nat.reduceEqDiff]) | (refine zE fun Kt Kf ht hf => ?_; simp (disch := omega) [go_sem, *]; try (refine ⟨fun hc => ?_, fun hc => ?_⟩ <;> try (exfalso; omega))))
 (refine zM ?_; try dsimp only [zC, zF]; refine ⟨by simp, _, (by first | rfl | (simp (disch := omega) [go_sem] <;> rfl)), ?_⟩; refine zJ ⟨fun k hk => (by first | rfl | (repeat rw [zB _ _ _ _ (by omega)])), (by simp [go_sem, below, zR]), (by simp [go_sem] <;> omega), by simp, by simp⟩)
theorem next_d (a b c d e : List Int) (ka kb kc kd ke : Nat) (_hka : ka < 100000) (_hkb : kb < 100000) (_hkc : kc < 100000) (hkd : kd < 100000) (hke : ke < 100000) (h4 : ¬ ke + 1 < e.length) (h3 : kd + 1 < d.length) :
   APure Tryz.prog 66 [encN a b c d e, .agg [iv .i64 ka, iv .i64 kb, iv .i64 kc, iv .i64 kd, iv .i64 ke]] (.tup [.agg [iv .i64 ka, iv .i64 kb, iv .i64 kc, iv .i64 ((kd : Int) + 1), iv .i64 0], bv true]) := by
 intro h n
 refine ACalls.pure (ACalls.entry (by kernel_rfl) fun hb _ => zO Tryz.func66 rfl (by kernel_rfl) (by simp [Tryz.ntmps66]) ?_)
 repeat' (first | (refine zD fun K hK => ?_) | (refine zA fun K hK => ?_; simp (disch := omega) [go_sem, *, Tryz.ntmps66]) | (apply Hide.out hK; clear hK K; try with_reducible dsimp only [zC]) | (refine zG ?_))
 refine zP 6 ?_
 unfold zQ
 repeat' (first | (refine zD fun K hK => ?_) | (refine zA fun K hK => ?_; simp (disch := omega) [go_sem, *, zK, zB, zH, zL]) | (refine zX mixed (by kernel_rfl) fun K hK => ?_; simp (disch := omega) [go_sem, *, zK, zB, zH, zV, zL]) | (apply Hide.out hK; clear hK K; try with_reducible dsimp only [zC]) | (apply Hide.out ht; clear ht hf Kt Kf) | (apply Hide.out hf; clear ht hf Kt Kf) | (refine zG ?_) | (refine zI ?_; simp only [zC, zF]) | (refine zE fun Kt Kf ht hf => ?_; simp (disch := omega) [go_sem, *]; try (refine ⟨fun hc => ?_, fun hc => ?_⟩ <;> try (exfalso; omega))))
 refine zP 6 ?_
 unfold zQ
 repeat' (first | (refine zD fun K hK => ?_) | (refine zA fun K hK => ?_; simp (disch := omega) [go_sem, *, zK, zB, zH, zL]) | (apply Hide.out hK; clear hK K; try with_reducible dsimp only [zC]) | (apply Hide.out ht; clear ht hf Kt Kf) | (apply Hide.out hf; clear ht hf Kt Kf) | (clear hK K; apply Hide.out hK; clear hK K; try with_reducible dsimp only [zC]) | (refine zG ?_) | (refine zI ?_; simp only [zC]) | (refine zS ?_; simp only [zC, zF, if_true, if_false, Nat.reduceEqDiff]) | (refine zE fun Kt Kf ht hf => ?_; simp (disch := omega) [go_sem, *]; try (refine ⟨fun hc => ?_, fun hc => ?_⟩ <;> try (exfalso; omega))))
 (refine zM ?_; try dsimp only [zC, zF]; refine ⟨by simp, _, (by first | rfl | (simp (disch := omega) [go_sem] <;> rfl)), ?_⟩; refine zJ ⟨fun k hk => (by first | rfl | (repeat rw [zB _ _ _ _ (by omega)])), (by simp [go_sem, below, zR]), (by simp [go_sem] <;> omega), by simp, by simp⟩)
theorem next_c (a b c d e : List Int) (ka kb kc kd ke : Nat) (_hka : ka < 100000) (_hkb : kb < 100000) (hkc : kc < 100000) (hkd : kd < 100000) (hke : ke < 100000) (h4 : ¬ ke + 1 < e.length) (h3 : ¬ kd + 1 < d.length) (h2 : kc + 1 < c.length) :
   APure Tryz.prog 66 [encN a b c d e, .agg [iv .i64 ka, iv .i64 kb, iv .i64 kc, iv .i64 kd, iv .i64 ke]] (.tup [.agg [iv .i64 ka, iv .i64 kb, iv .i64 ((kc : Int) + 1), iv .i64 0, iv .i64 0], bv true]) := by
 intro h n
 refine ACalls.pure (ACalls.entry (by kernel_rfl) fun hb _ => zO Tryz.func66 rfl (by kernel_rfl) (by simp [Tryz.ntmps66]) ?_)
 repeat' (first | (refine zD fun K hK => ?_) | (refine zA fun K hK => ?_; simp (disch := omega) [go_sem, *, Tryz.ntmps66]) | (apply Hide.out hK; clear hK K; try with_reducible dsimp only [zC]) | (refine zG ?_))
 refine zP 6 ?_
 unfold zQ
 repeat' (first | (refine zD fun K hK => ?_) | (refine zA fun K hK => ?_; simp (disch := omega) [go_sem, *, zK, zB, zH, zL]) | (refine zX mixed (by kernel_rfl) fun K hK => ?_; simp (disch := omega) [go_sem, *, zK, zB, zH, zV, zL]) | (apply Hide.out hK; clear hK K; try with_reducible dsimp only [zC]) | (apply Hide.out ht; clear ht hf Kt Kf) | (apply Hide.out hf; clear ht hf Kt Kf) | (refine zG ?_) | (refine zI ?_; simp only [zC, zF]) | (refine zE fun Kt Kf ht hf => ?_; simp (disch := omega) [go_sem, *]; try (refine ⟨fun hc => ?_, fun hc => ?_⟩ <;> try (exfalso; omega))))
 refine zP 6 ?_
 unfold zQ
 repeat' (first | (refine zD fun K hK => ?_) | (refine zA fun K hK => ?_; simp (disch := omega) [go_sem, *, zK, zB, zH, zL]) | (apply Hide.out hK; clear hK K; try with_reducible dsimp only [zC]) | (apply Hide.out ht; clear ht hf Kt Kf) | (apply Hide.out hf; clear ht hf Kt Kf) | (clear hK K; apply Hide.out hK; clear hK K; try with_reducible dsimp only [zC]) | (refine zG ?_) | (refine zI ?_; simp only [zC]) | (refine zS ?_; simp only [zC, zF, if_true, if_false, Nat.reduceEqDiff]) | (refine zE fun Kt Kf ht hf => ?_; simp (disch := omega) [go_sem, *]; try (refine ⟨fun hc => ?_, fun hc => ?_⟩ <;> try (exfalso; omega))))
 (refine zM ?_; try dsimp only [zC, zF]; refine ⟨by simp, _, (by first | rfl | (simp (disch := omega) [go_sem] <;> rfl)), ?_⟩; refine zJ ⟨fun k hk => (by first | rfl | (repeat rw [zB _ _ _ _ (by omega)])), (by simp [go_sem, below, zR]), (by simp [go_sem] <;> omega), by simp, by simp⟩)
theorem next_b (a b c d e : List Int) (ka kb kc kd ke : Nat) (_hka : ka < 100000) (hkb : kb < 100000) (hkc : kc < 100000) (hkd : kd < 100000) (hke : ke < 100000) (h4 : ¬ ke + 1 < e.length) (h3 : ¬ kd + 1 < d.length) (h2 : ¬ kc + 1 < c.length) (h1 : kb + 1 < b.length) :
   APure Tryz.prog 66 [encN a b c d e, .agg [iv .i64 ka, iv .i64 kb, iv .i64 kc, iv .i64 kd, iv .i64 ke]] (.tup [.agg [iv .i64 ka, iv .i64 ((kb : Int) + 1), iv .i64 0, iv .i64 0, iv .i64 0], bv true]) := by
 intro h n
 refine ACalls.pure (ACalls.entry (by kernel_rfl) fun hb _ => zO Tryz.func66 rfl (by kernel_rfl) (by simp [Tryz.ntmps66]) ?_)
 repeat' (first | (refine zD fun K hK => ?_) | (refine zA fun K hK => ?_; simp (disch := omega) [go_sem, *, Tryz.ntmps66]) | (apply Hide.out hK; clear hK K; try with_reducible dsimp only [zC]) | (refine zG ?_))
 refine zP 6 ?_
 unfold zQ
 repeat' (first | (refine zD fun K hK => ?_) | (refine zA fun K hK => ?_; simp (disch := omega) [go_sem, *, zK, zB, zH, zL]) | (refine zX mixed (by kernel_rfl) fun K hK => ?_; simp (disch := omega) [go_sem, *, zK, zB, zH, zV, zL]) | (apply Hide.out hK; clear hK K; try with_reducible dsimp only [zC]) | (apply Hide.out ht; clear ht hf Kt Kf) | (apply Hide.out hf; clear ht hf Kt Kf) | (refine zG ?_) | (refine zI ?_; simp only [zC, zF]) | (refine zE fun Kt Kf ht hf => ?_; simp (disch := omega) [go_sem, *]; try (refine ⟨fun hc => ?_, fun hc => ?_⟩ <;> try (exfalso; omega))))
 refine zP 6 ?_
 unfold zQ
 repeat' (first | (refine zD fun K hK => ?_) | (refine zA fun K hK => ?_; simp (disch := omega) [go_sem, *, zK, zB, zH, zL]) | (apply Hide.out hK; clear hK K; try with_reducible dsimp only [zC]) | (apply Hide.out ht; clear ht hf Kt Kf) | (apply Hide.out hf; clear ht hf Kt Kf) | (clear hK K; apply Hide.out hK; clear hK K; try with_reducible dsimp only [zC]) | (refine zG ?_) | (refine zI ?_; simp only [zC]) | (refine zS ?_; simp only [zC, zF, if_true, if_false, Nat.reduceEqDiff]) | (refine zE fun Kt Kf ht hf => ?_; simp (disch := omega) [go_sem, *]; try (refine ⟨fun hc => ?_, fun hc => ?_⟩ <;> try (exfalso; omega))))
 (refine zM ?_; try dsimp only [zC, zF]; refine ⟨by simp, _, (by first | rfl | (simp (disch := omega) [go_sem] <;> rfl)), ?_⟩; refine zJ ⟨fun k hk => (by first | rfl | (repeat rw [zB _ _ _ _ (by omega)])), (by simp [go_sem, below, zR]), (by simp [go_sem] <;> omega), by simp, by simp⟩)
theorem next_a (a b c d e : List Int) (ka kb kc kd ke : Nat) (hka : ka < 100000) (hkb : kb < 100000) (hkc : kc < 100000) (hkd : kd < 100000) (hke : ke < 100000) (h4 : ¬ ke + 1 < e.length) (h3 : ¬ kd + 1 < d.length) (h2 : ¬ kc + 1 < c.length) (h1 : ¬ kb + 1 < b.length) (h0 : ka + 1 < a.length) :
   APure Tryz.prog 66 [encN a b c d e, .agg [iv .i64 ka, iv .i64 kb, iv .i64 kc, iv .i64 kd, iv .i64 ke]] (.tup [.agg [iv .i64 ((ka : Int) + 1), iv .i64 0, iv .i64 0, iv .i64 0, iv .i64 0], bv true]) := by
 intro h n
 refine ACalls.pure (ACalls.entry (by kernel_rfl) fun hb _ => zO Tryz.func66 rfl (by kernel_rfl) (by simp [Tryz.ntmps66]) ?_)
 repeat' (first | (refine zD fun K hK => ?_) | (refine zA fun K hK => ?_; simp (disch := omega) [go_sem, *, Tryz.ntmps66]) | (apply Hide.out hK; clear hK K; try with_reducible dsimp only [zC]) | (refine zG ?_))
 refine zP 6 ?_
 unfold zQ
 repeat' (first | (refine zD fun K hK => ?_) | (refine zA fun K hK => ?_; simp (disch := omega) [go_sem, *, zK, zB, zH, zL]) | (refine zX mixed (by kernel_rfl) fun K hK => ?_; simp (disch := omega) [go_sem, *, zK, zB, zH, zV, zL]) | (apply Hide.out hK; clear hK K; try with_reducible dsimp only [zC]) | (apply Hide.out ht; clear ht hf Kt Kf) | (apply Hide.out hf; clear ht hf Kt Kf) | (refine zG ?_) | (refine zI ?_; simp only [zC, zF]) | (refine zE fun Kt Kf ht hf => ?_; simp (disch := omega) [go_sem, *]; try (refine ⟨fun hc => ?_, fun hc => ?_⟩ <;> try (exfalso; omega))))
 refine zP 6 ?_
 unfold zQ
 repeat' (first | (refine zD fun K hK => ?_) | (refine zA fun K hK => ?_; simp (disch := omega) [go_sem, *, zK, zB, zH, zL]) | (apply Hide.out hK; clear hK K; try with_reducible dsimp only [zC]) | (apply Hide.out ht; clear ht hf Kt Kf) | (apply Hide.out hf; clear ht hf Kt Kf) | (clear hK K; apply Hide.out hK; clear hK K; try with_reducible dsimp only [zC]) | (refine zG ?_) | (refine zI ?_; simp only [zC]) | (refine zS ?_; simp only [zC, zF, if_true, if_false, Nat.reduceEqDiff]) | (refine zE fun Kt Kf ht hf => ?_; simp (disch := omega) [go_sem, *]; try (refine ⟨fun hc => ?_, fun hc => ?_⟩ <;> try (exfalso; omega))))
 (refine zM ?_; try dsimp only [zC, zF]; refine ⟨by simp, _, (by first | rfl | (simp (disch := omega) [go_sem] <;> rfl)), ?_⟩; refine zJ ⟨fun k hk => (by first | rfl | (repeat rw [zB _ _ _ _ (by omega)])), (by simp [go_sem, below, zR]), (by simp [go_sem] <;> omega), by simp, by simp⟩)
theorem next_end (a b c d e : List Int) (ka kb kc kd ke : Nat) (hka : ka < 100000) (hkb : kb < 100000) (hkc : kc < 100000) (hkd : kd < 100000) (hke : ke < 100000) (h4 : ¬ ke + 1 < e.length) (h3 : ¬ kd + 1 < d.length) (h2 : ¬ kc + 1 < c.length) (h1 : ¬ kb + 1 < b.length) (h0 : ¬ ka + 1 < a.length) :
   APure Tryz.prog 66 [encN a b c d e, .agg [iv .i64 ka, iv .i64 kb, iv .i64 kc, iv .i64 kd, iv .i64 ke]] (.tup [.agg [iv .i64 ka, iv .i64 kb, iv .i64 kc, iv .i64 kd, iv .i64 ke], bv false]) := by
 intro h n
 refine ACalls.pure (ACalls.entry (by kernel_rfl) fun hb _ => zO Tryz.func66 rfl (by kernel_rfl) (by simp [Tryz.ntmps66]) ?_)
 repeat' (first | (refine zD fun K hK => ?_) | (refine zA fun K hK => ?_; simp (disch := omega) [go_sem, *, Tryz.ntmps66]) | (apply Hide.out hK; clear hK K; try with_reducible dsimp only [zC]) | (refine zG ?_))
 refine zP 6 ?_
 unfold zQ
 repeat' (first | (refine zD fun K hK => ?_) | (refine zA fun K hK => ?_; simp (disch := omega) [go_sem, *, zK, zB, zL, ile_false]) | (refine zX mixed (by kernel_rfl) fun K hK => ?_; simp (disch := omega) [go_sem, *, zK, zB, zH, zV, zL]) | (apply Hide.out hK; clear hK K; try with_reducible dsimp only [zC]) | (apply Hide.out ht; clear ht hf Kt Kf) | (apply Hide.out hf; clear ht hf Kt Kf) | (clear hK K; apply Hide.out hK; clear hK K; try with_reducible dsimp only [zC]) | (refine zG ?_) | (refine zI ?_; simp only [zC, zF]) | (refine zS ?_; simp only [zC, zF, if_true]) | (refine zE fun Kt Kf ht hf => ?_; simp (disch := omega) [go_sem, *]; try (refine ⟨fun hc => ?_, fun hc => ?_⟩ <;> try (exfalso; omega))))
 (refine zM ?_; try dsimp only [zC, zF]; refine ⟨by simp, _, (by first | rfl | (simp (disch := omega) [go_sem] <;> rfl)), ?_⟩; refine zJ ⟨fun k hk => (by first | rfl | (repeat rw [zB _ _ _ _ (by omega)])), (by simp [go_sem, below, zR]), (by simp [go_sem] <;> omega), by simp, by simp⟩)
end Go.AM
namespace Go.AM
open Go.Proofs Cw
set_option maxRecDepth 10000
set_option maxHeartbeats 4000000
def rmul (p : Int) (l : Nat) : Int := min (p * l) 1073741824
theorem rmul_bd (p : Int) (l : Nat) (h1 : 0 ≤ p) (h2 : p ≤ 1073741824) (hl : l ≤ 100000) : 0 ≤ p * l ∧ p * l ≤ 107374182400000 ∧ 0 ≤ rmul p l ∧ rmul p l ≤ 1073741824 := by
 have e1 : 0 ≤ p * l := Int.mul_nonneg h1 (by omega)
 have e2 : p * l ≤ 1073741824 * 100000 := Int.mul_le_mul h2 (by omega) (by omega) (by omega)
 refine ⟨e1, by omega, ?_, ?_⟩ <;> unfold rmul <;> omega
theorem okL_get : ∀ {l : List Cnd}, okL l = true → ∀ {i : Nat} {c : Cnd}, l[i]? = some c → ok c = true
 | [], _, i, c, h => by simp at h
 | d :: r, hw, 0, c, h => by simp only [okL, Bool.and_eq_true] at hw; simp at h; subst h; exact hw.1
 | d :: r, hw, i + 1, c, h => by simp only [okL, Bool.and_eq_true] at hw; exact okL_get hw.2 (i := i) (by simpa using h)
theorem totL_take : ∀ (l : List Cnd) (i : Nat) (c : Cnd), l[i]? = some c → totL (l.take i) + tot c ≤ totL l
 | [], i, c, h => by simp at h
 | d :: r, 0, c, h => by simp at h; subst h; simp [totL]
 | d :: r, i + 1, c, h => by have := totL_take r i c (by simpa using h); simp only [List.take_succ_cons, totL]; omega
theorem collL_snoc (j : Int) : ∀ (l : List Cnd) (x : Cnd) (a : List Int), collL j (l ++ [x]) a = coll j x (collL j l a)
 | [], x, a => rfl
 | c :: r, x, a => by simp only [List.cons_append, collL]; exact collL_snoc j r x _
def rfew (cs : List Cnd) : Bool := decide (rmul (rmul (rmul (rmul (rmul 1 (numsR 0 cs).length) (numsR 1 cs).length) (numsR 2 cs).length) (numsR 3 cs).length) (numsR 4 cs).length ≤ 20000)
theorem length_totL : ∀ l : List Cnd, l.length ≤ totL l
 | [] => by simp
 | c :: r => by have := length_totL r; have := tot_pos c; simp only [List.length_cons, totL]; omega
theorem numbers_spec (cs : List Cnd) (nl fu : Bool) (s : Nat) (hnl : cs = [] ∨ nl = false ∧ s = 5) (hw : wfL cs) (hok : okL cs = true) (ht : totL cs ≤ 1000) :
   APure Tryz.prog 63 [.fslc nl fu s (encL cs)] (.tup [encN (numsR 0 cs) (numsR 1 cs) (numsR 2 cs) (numsR 3 cs) (numsR 4 cs), bv (rfew cs)]) := by
 intro h n
 refine ACalls.pure (ACalls.entry (by kernel_rfl) fun hb _ => zO Tryz.func63 rfl (by kernel_rfl) (by simp [Tryz.ntmps63]) ?_)
 obtain ⟨R, hR⟩ : ∃ R, R = AV.tup [encN (numsR 0 cs) (numsR 1 cs) (numsR 2 cs) (numsR 3 cs) (numsR 4 cs), bv (rfew cs)] := ⟨_, rfl⟩
 rw [← hR]
 replace hR : Hide _ := hR
 have hlc := length_totL cs
 replace hnl : Hide _ := hnl
 replace hw : Hide _ := hw
 replace hok : Hide _ := hok
 repeat' (first | (refine zD fun K hK => ?_) | (refine zA fun K hK => ?_; simp (disch := omega) [go_sem, *, Tryz.ntmps63]) | (apply Hide.out hK; clear hK K; try with_reducible dsimp only [zC]) | (refine zG ?_))
 refine zP 6 ?_
 unfold zQ
 repeat' (first | (refine zD fun K hK => ?_) | (refine zA fun K hK => ?_; simp (disch := omega) [go_sem, *, zK, zH, zL]) | (apply Hide.out hK; clear hK K; try with_reducible dsimp only [zC]) | (apply Hide.out ht; clear ht hf Kt Kf) | (apply Hide.out hf; clear ht hf Kt Kf) | (clear hK K; apply Hide.out hK; clear hK K; try with_reducible dsimp only [zC]) | (refine zG ?_) | (refine zI ?_; simp only [zC]) | (refine zS ?_; simp only [zC, zF, if_true]) | (refine zE fun Kt Kf ht hf => ?_; simp (disch := omega) [go_sem, *]; try (refine ⟨fun hc => ?_, fun hc => ?_⟩ <;> try (exfalso; omega))))
 refine zc (fun s' => ∃ (i n' : Nat), n + 3 < n' ∧ i ≤ cs.length ∧ s' = ⟨47, [(0, .fslc nl fu s (encL cs)), (2, .ptr n 0), (4, .ptr (n + 3) 0), (6, iv .i64 i)], (h.upd n (some (.cells [.fslc true true 0 [], .fslc true true 0 [], .fslc true true 0 [], .fslc true true 0 [], .fslc true true 0 []]))).upd (n + 3) (some (.cells [encI (collL 0 (cs.take i) [0]), encI (collL 1 (cs.take i) [0]), encI (collL 2 (cs.take i) [0]), encI (collL 3 (cs.take i) [0]), encI (collL 4 (cs.take i) [0])])), n'⟩)
     (fun s' => cs.length - (intAt s' 6).toNat) ?_ ?_
 · exact zb (by simp [go_sem, *]) (fun k o e => by
     by_cases h1 : k = n + 3
     · subst h1; simpa [zN, collL, encI] using e
     · simp only [zB _ _ _ _ h1] at e ⊢; exact e) ⟨0, _, by omega, by omega, rfl⟩
 · rintro s' ⟨i, n', hn', hi, rfl⟩
   have hlen := encL_length cs
   by_cases hlt : i < cs.length
   · obtain ⟨x, hx⟩ : ∃ x, cs[i]? = some x := ⟨cs[i], List.getElem?_eq_getElem hlt⟩
     have hne : cs ≠ [] := fun e => by rw [e] at hlt; simp at hlt
     obtain ⟨rfl, rfl⟩ := hnl.out.resolve_left hne
     have hex : (encL cs)[i]? = some (encC x) := by rw [encL_get, hx]; rfl
     have htk := totL_take cs i x hx
     have l0 := length_collL 0 (cs.take i) [0]
     have l1 := length_collL 1 (cs.take i) [0]
     have l2 := length_collL 2 (cs.take i) [0]
     have l3 := length_collL 3 (cs.take i) [0]
     have l4 := length_collL 4 (cs.take i) [0]
     simp only [List.length_singleton] at l0 l1 l2 l3 l4
     have k1 := collect_spec (tot x) x (Nat.le_refl _) (by omega) (wfL_get hw.out hx) (okL_get hok.out hx) _ _ _ _ _ (Nat.le_trans (Nat.add_le_add_right l0 _) (by omega)) (Nat.le_trans (Nat.add_le_add_right l1 _) (by omega)) (Nat.le_trans (Nat.add_le_add_right l2 _) (by omega)) (Nat.le_trans (Nat.add_le_add_right l3 _) (by omega)) (Nat.le_trans (Nat.add_le_add_right l4 _) (by omega))
     rw [← collL_snoc, ← collL_snoc, ← collL_snoc, ← collL_snoc, ← collL_snoc] at k1
     have htake : cs.take i ++ [x] = cs.take (i + 1) := by
       rw [List.take_succ_eq_append_getElem hlt]; rw [List.getElem?_eq_getElem hlt] at hx; cases hx; rfl
     rw [htake] at k1
     clear htake l0 l1 l2 l3 l4 htk hne
     replace hx : Hide _ := hx
     obtain ⟨a, hA⟩ : ∃ a, Hide (a = collL 0 (cs.take i) [0]) := ⟨_, rfl⟩
     obtain ⟨b, hB⟩ : ∃ a, Hide (a = collL 1 (cs.take i) [0]) := ⟨_, rfl⟩
     obtain ⟨c, hC⟩ : ∃ a, Hide (a = collL 2 (cs.take i) [0]) := ⟨_, rfl⟩
     obtain ⟨d, hD⟩ : ∃ a, Hide (a = collL 3 (cs.take i) [0]) := ⟨_, rfl⟩
     obtain ⟨e, hE⟩ : ∃ a, Hide (a = collL 4 (cs.take i) [0]) := ⟨_, rfl⟩
     rw [← hA.out, ← hB.out, ← hC.out, ← hD.out, ← hE.out] at k1 ⊢
     obtain ⟨xk, xf, xo, xn, xnl, xfu, xsz, xks⟩ := x
     simp only [encC] at k1 hex
     have hel : i < (encL cs).length := by omega
     have hex2 : (encL cs)[i] = .agg [iv .i64 xk, iv .i64 xf, iv .i64 xo, iv .i64 xn, .fslc xnl xfu xsz (encL xks)] := by
       rw [List.getElem?_eq_getElem hel] at hex; exact Option.some.inj hex
     replace hex : Hide _ := hex
     repeat' (first | (refine zD fun K hK => ?_) | (refine zA fun K hK => ?_; simp (disch := omega) [go_sem, *, zH]) | (apply Hide.out hK; clear hK K; try with_reducible dsimp only [zC]) | (apply Hide.out ht; clear ht hf Kt Kf) | (refine zG ?_) | (refine zI ?_; simp only [zC]) | (refine zE fun Kt Kf ht hf => ?_; simp (disch := omega) [go_sem, *]; try (refine ⟨fun hc => ?_, fun hc => ?_⟩ <;> try (exfalso; omega))))
     refine zd [6] (fun h' => h' (n + 3) = some (.cells [encI a, encI b, encI c, encI d, encI e])) mixed (by kernel_rfl) (by simp (disch := omega) [go_sem]) fun K hK => ?_
     simp (disch := omega) [go_sem, *]
     repeat' (first | (refine aC_c (by simp [go_sem]) (by decide) (fun h' hh => by (try dsimp only at hh); (try simp (disch := omega) [go_sem, *, zL]); first | exact rfl | exact ⟨rfl, rfl, rfl⟩ | exact (k1).gcall ⟨rfl, rfl, rfl⟩) ?_; try simp only [pS_some]) | (refine aC_x (by simp [go_sem]) (by decide) (by (try simp (disch := omega) [go_sem, *]); first | exact rfl | exact ⟨rfl, rfl⟩ | exact ⟨rfl, rfl, rfl⟩ | exact (k1).gcall ⟨rfl, rfl, rfl⟩) (by first | exact .inl rfl | (right; simp (disch := omega) [go_sem, zB, encL_length])) ?_; try simp only [pS_none]) | (refine aC_end ?_; apply Hide.out hK; clear hK K; try with_reducible dsimp only [zC]))
     repeat' (first | (refine zA fun K hK => ?_; simp (disch := omega) [go_sem, *, zK]) | (apply Hide.out hK; clear hK K; try with_reducible dsimp only [zC]))
     exact zW (by simp (disch := omega) [go_sem]) (fun k o e => by
     by_cases h1 : k = n + 3
     · subst h1; simpa [zN] using e
     · simp only [zB _ _ _ _ h1] at e ⊢; exact e) ⟨i + 1, _, by omega, by omega, rfl⟩ (by simp [intAt, go_sem]; omega)
   · have hii : i = cs.length := by omega
     subst hii
     rw [List.take_length]
     obtain ⟨a, hA⟩ : ∃ a, Hide (a = collL 0 cs [0]) := ⟨_, rfl⟩
     obtain ⟨b, hB⟩ : ∃ a, Hide (a = collL 1 cs [0]) := ⟨_, rfl⟩
     obtain ⟨c, hC⟩ : ∃ a, Hide (a = collL 2 cs [0]) := ⟨_, rfl⟩
     obtain ⟨d, hD⟩ : ∃ a, Hide (a = collL 3 cs [0]) := ⟨_, rfl⟩
     obtain ⟨e, hE⟩ : ∃ a, Hide (a = collL 4 cs [0]) := ⟨_, rfl⟩
     have l0 := length_collL 0 cs [0]
     have l1 := length_collL 1 cs [0]
     have l2 := length_collL 2 cs [0]
     have l3 := length_collL 3 cs [0]
     have l4 := length_collL 4 cs [0]
     simp only [List.length_singleton] at l0 l1 l2 l3 l4
     rw [← hA.out] at l0
     rw [← hB.out] at l1
     rw [← hC.out] at l2
     rw [← hD.out] at l3
     rw [← hE.out] at l4
     rw [← hA.out, ← hB.out, ← hC.out, ← hD.out, ← hE.out]
     have q0 : rmul 1 a.length = a.length := by rw [rmul, Int.one_mul]; omega
     obtain ⟨p1, q1⟩ : ∃ p, Hide (p = rmul a.length b.length) := ⟨_, rfl⟩
     obtain ⟨p2, q2⟩ : ∃ p, Hide (p = rmul p1 c.length) := ⟨_, rfl⟩
     obtain ⟨p3, q3⟩ : ∃ p, Hide (p = rmul p2 d.length) := ⟨_, rfl⟩
     obtain ⟨p4, q4⟩ : ∃ p, Hide (p = rmul p3 e.length) := ⟨_, rfl⟩
     obtain ⟨j0, j1, j2, j3⟩ := rmul_bd a.length b.length (by omega) (by omega) (by omega)
     rw [← q1.out] at j2 j3
     obtain ⟨m0, m1, m2, m3⟩ := rmul_bd p1 c.length j2 j3 (by omega)
     rw [← q2.out] at m2 m3
     obtain ⟨o0, o1, o2, o3⟩ := rmul_bd p2 d.length m2 m3 (by omega)
     rw [← q3.out] at o2 o3
     obtain ⟨r0, r1, r2, r3⟩ := rmul_bd p3 e.length o2 o3 (by omega)
     rw [← q4.out] at r2 r3
     have w1 : min ((a.length : Int) * b.length) 1073741824 = p1 := by rw [q1.out, rmul]
     have w2 : min (p1 * (c.length : Int)) 1073741824 = p2 := by rw [q2.out, rmul]
     have w3 : min (p2 * (d.length : Int)) 1073741824 = p3 := by rw [q3.out, rmul]
     have w4 : min (p3 * (e.length : Int)) 1073741824 = p4 := by rw [q4.out, rmul]
     have hR2 : R = .tup [encN a b c d e, bv (decide (p4 ≤ 20000))] := by
       rw [hR.out, q4.out, q3.out, q2.out, q1.out, ← q0, hA.out, hB.out, hC.out, hD.out, hE.out]; rfl
     subst hR2
     clear hnl hw hok
     repeat' (first | (refine zD fun K hK => ?_) | (refine zA fun K hK => ?_; simp (disch := omega) [go_sem, *]) | (apply Hide.out hK; clear hK K; try with_reducible dsimp only [zC]) | (apply Hide.out hf; clear ht hf Kt Kf) | (clear hK K; apply Hide.out hK; clear hK K; try with_reducible dsimp only [zC]) | (refine zG ?_) | (refine zS ?_; simp only [zC, zF, if_true]) | (refine zE fun Kt Kf ht hf => ?_; simp (disch := omega) [go_sem, *]; try (refine ⟨fun hc => ?_, fun hc => ?_⟩ <;> try (exfalso; omega))))
     refine zP 6 ?_
     unfold zQ
     repeat' (first | (refine zD fun K hK => ?_) | (refine zA fun K hK => ?_; simp (disch := omega) [go_sem, *, zK, zB, zH, zV, zL]) | (apply Hide.out hK; clear hK K; try with_reducible dsimp only [zC]) | (apply Hide.out ht; clear ht hf Kt Kf) | (apply Hide.out hf; clear ht hf Kt Kf) | (clear hK K; apply Hide.out hK; clear hK K; try with_reducible dsimp only [zC]) | (refine zG ?_) | (refine zI ?_; simp only [zC]) | (refine zS ?_; simp only [zC, zF, if_true]) | (refine zE fun Kt Kf ht hf => ?_; simp (disch := omega) [go_sem, *]; try (refine ⟨fun hc => ?_, fun hc => ?_⟩ <;> try (exfalso; omega))))
     (refine zM ?_; try dsimp only [zC, zF]; refine ⟨by simp, _, (by first | rfl | (simp (disch := omega) [go_sem] <;> rfl)), ?_⟩; refine zJ ⟨fun k hk => (by first | rfl | (repeat rw [zB _ _ _ _ (by omega)])), (by simp [go_sem, below, zR, below_int]), (by simp [go_sem] <;> omega), by simp, by simp⟩)
end Go.AM
