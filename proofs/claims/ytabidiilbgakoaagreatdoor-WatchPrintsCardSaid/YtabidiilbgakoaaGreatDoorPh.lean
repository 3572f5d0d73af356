/- A watch printed, by the program. Conditions: as each theorem says. -/
import Derived.Test.YtabidiilbgakoaaGreatDoorPg
import Derived.Test.YtabidiilbgakoaaGreatDoorPd
import Derived.Test.YtabidiilbgakoaaGreatDoorPe
namespace Go.AM
open Go.Proofs Cw Du
set_option maxRecDepth 10000
set_option maxHeartbeats 4000000
theorem BufIs.upd {N o n k : Nat} {H : AHeap} {B : ByteArray} {x : Option AObj} (hB : BufIs N H o n B) (hk : n ≤ k) : BufIs N (H.upd k x) o n B := by
  obtain ⟨h1, h2, ⟨h3, h4⟩ | ⟨m, h3, h4, h5, h6, h7, h8⟩⟩ := hB
  · exact ⟨h1, h2, .inl ⟨h3, by rw [upd_ne _ _ _ _ (by omega)]; exact h4⟩⟩
  · exact ⟨h1, h2, .inr ⟨m, h3, h4, h5, h6, by rw [upd_ne _ _ _ _ (by omega)]; exact h7, by rw [upd_ne _ _ _ _ (by omega)]; exact h8⟩⟩
theorem BufIs.le {N o n n' : Nat} {H : AHeap} {B : ByteArray} (hB : BufIs N H o n B) (hn : n ≤ n') : BufIs N H o n' B := by
  obtain ⟨h1, h2, ⟨h3, h4⟩ | ⟨m, h3, h4, h5, h6, h7, h8⟩⟩ := hB
  · exact ⟨h1, by omega, .inl ⟨h3, h4⟩⟩
  · exact ⟨h1, by omega, .inr ⟨m, h3, by omega, h5, h6, h7, h8⟩⟩
theorem Print_spec (nlL fuL : Bool) (sL : Nat) (ls : List Lin) (hnlL : ls = [] ∨ nlL = false ∧ sL = 8) (hsL : smL ls) (hlL : ls.length ≤ 1000000) (nl fu : Bool) (s : Nat) (l : List Ordr) (hnl : l = [] ∨ nl = false ∧ s = 7) (hw : wfO l) (hs : smO l) (hl : l.length ≤ 1000000) :
    APure Tryz.prog 25 [.agg [.fslc nlL fuL sL (ls.map encLn), .fslc nl fu s (l.map encO)]] (.tup [sv (pwT ls l), iv .i64 (chkW ls l)]) := by
  intro h n
  have k0 := check_spec nlL fuL sL ls hnlL hsL hlL nl fu s l hnl hw hs hl
  refine ACalls.pure (ACalls.entry (by kernel_rfl) fun hb _ => calls_of Tryz.func25 rfl (by kernel_rfl) (by simp [Tryz.ntmps25]) ?_)
  unfold pwT
  by_cases hz : chkW ls l = 0
  · rw [if_pos hz]
    rw [hz] at k0 ⊢
    obtain ⟨a1, a2, a3, a4⟩ := chkW_zero hz
    obtain ⟨p1, p2⟩ := prAll a3 a4 a1 a2
    unfold txT
    replace hnl : Hide _ := hnl
    replace hnlL : Hide _ := hnlL
    replace hsL : Hide _ := hsL
    replace hw : Hide _ := hw
    replace hs : Hide _ := hs
    replace a3 : Hide _ := a3
    replace a4 : Hide _ := a4
    replace p1 : Hide _ := p1
    replace p2 : Hide _ := p2
    clear hz
    obtain ⟨T, hT⟩ : ∃ T, Hide (T = catT ordT (catT linT ⟨#[]⟩ ls ls.length) l l.length) := ⟨_, rfl⟩
    rw [← hT.out]
    repeat' (first | (refine ac_seq_h fun K hK => ?_) | (refine ac_region_h fun K hK => ?_; simp (disch := omega) [go_sem, *, upd_ne, Tryz.ntmps25 ]) | (apply Hide.out hK; clear hK K; try with_reducible dsimp only [thenA]) | (apply Hide.out hf; clear ht hf Kt Kf) | (with_reducible refine APure.gcall (k0) ?_; try simp (disch := omega) [go_sem, * ]) | (refine ac_block ?_) | (refine ac_skip ?_; simp only [thenA]) | (refine ac_cond_h fun Kt Kf ht hf => ?_; simp (disch := omega) [go_sem, * ]; try (refine ⟨fun hc => ?_, fun hc => ?_⟩ <;> try (exfalso; omega))))
    refine ac_loop_wk (fun s' => ∃ (i n' : Nat) (H : AHeap), n + 8 < n' ∧ i ≤ ls.length ∧ H n = some (.cells [.fslc nlL fuL sL (ls.map encLn), .fslc nl fu s (l.map encO)]) ∧ BufIs (n + 1) H (n + 8) n' (catT linT ⟨#[]⟩ ls i) ∧ (∀ x, x < n → H x = h x) ∧ s' = ⟨53, [(1, .ptr n 0), (5, .ptr (n + 8) 0), (16, .fslc nlL fuL sL (ls.map encLn)), (17, iv .i64 ls.length), (18, iv .i64 i)], H, n'⟩)
      (fun s' => ls.length - (intAt s' 18).toNat) ?_ ?_
    · exact loop_start (by simp [go_sem]) (Sub.refl _) ⟨0, _, _, by (try simp only); omega, by omega, by rw [upd_ne _ _ _ _ (by omega), upd_same], ⟨by omega, by omega, .inl ⟨rfl, upd_same _ _ _⟩⟩, fun x hx => by rw [upd_ne _ _ _ _ (by omega), upd_ne _ _ _ _ (by omega)], rfl⟩
    · rintro s' ⟨i, n', H, hn', hi, g0, gB, g2, rfl⟩
      replace gB : Hide _ := gB
      replace g2 : Hide _ := g2
      by_cases hlt : i < ls.length
      · obtain ⟨x, hx⟩ : ∃ o, ls[i] = o := ⟨_, rfl⟩
        have hmem : x ∈ ls := hx ▸ List.getElem_mem hlt
        have hne : ls ≠ [] := fun e => by rw [e] at hlt; simp at hlt
        obtain ⟨rfl, rfl⟩ := hnlL.out.resolve_left hne
        obtain ⟨q1, q2, q3, q4, q5⟩ := hsL.out _ hmem
        have hok := List.all_eq_true.1 a3.out x hmem
        have k1 := showLine_spec x q1 (lineOk_pr hok).1
        have z1 := p1.out i hi
        obtain ⟨z2, z3⟩ := linT_size hok
        have hst := catT_step linT ⟨#[]⟩ ls (i := i) (x := x) (by rw [List.getElem?_eq_getElem hlt, hx])
        have hex : encLn ls[i] = .agg [iv .i64 x.kind, sv x.tower, sv x.person, sv x.other, iv .i64 x.fr, iv .i64 x.to, iv .i64 x.ev, .fslc x.nl x.fu x.s (x.exc.map (iv .i64))] := by rw [hx]; rfl
        replace hst : Hide _ := hst
        replace hx : Hide _ := hx
        clear hmem hne q1 q2 q3 q4 q5 hok
        simp only [encLn] at k1
        generalize linT x = LX at *
        obtain ⟨kd, tw, pe, ot, fr, to, ev, xnl, xfu, xs, exc⟩ := x
        simp only at k1 hex
        generalize List.map (iv .i64) exc = X at *
        repeat' (first | (refine ac_seq_h fun K hK => ?_) | (refine ac_region_h fun K hK => ?_; simp (disch := omega) [go_sem, *, ilt_true, ile_true]) | (apply Hide.out hK; clear hK K; try with_reducible dsimp only [thenA]) | (apply Hide.out ht; clear ht hf Kt Kf) | (with_reducible refine APure.gcall (k1) ?_; try simp (disch := omega) [go_sem, *]) | (refine ac_block ?_) | (refine ac_skip ?_; simp only [thenA]) | (refine ac_cond_h fun Kt Kf ht hf => ?_; simp (disch := omega) [go_sem, *]; try (refine ⟨fun hc => ?_, fun hc => ?_⟩ <;> try (exfalso; omega))))
        refine .inl ((write_spec (((gB.out.upd (by omega)).upd (by omega)).le (by omega)) z2 (by omega)).mono fun r h' n3 ⟨e1, ⟨z, e2⟩, e3, e4⟩ => ?_)
        subst e2
        rw [hst.out] at e3
        have e5 : h' n = H n := by rw [e4 n (by omega), upd_ne _ _ _ _ (by omega), upd_ne _ _ _ _ (by omega)]
        replace e4 : Hide _ := e4
        replace e3 : Hide _ := e3
        repeat' (first | (refine ac_region_h fun K hK => ?_; simp (disch := omega) [go_sem, *, wrap64_id]) | (apply Hide.out hK; clear hK K; try with_reducible dsimp only [thenA]))
        exact round_end (by simp (disch := omega) [go_sem]) (Sub.refl _) ⟨i + 1, _, _, by (try simp only); omega, by omega, by rw [e5]; exact g0, e3.out.le (by omega), fun x hx => by rw [e4.out x (by omega), upd_ne _ _ _ _ (by omega), upd_ne _ _ _ _ (by omega)]; exact g2.out x hx, rfl⟩ (by simp [intAt, go_sem]; omega)
      · have hii : i = ls.length := by omega
        subst hii
        obtain ⟨B, hB⟩ : ∃ B, catT linT ⟨#[]⟩ ls ls.length = B := ⟨_, rfl⟩
        rw [hB] at hT p2 gB
        clear hB p1 hlt
        repeat' (first | (refine ac_seq_h fun K hK => ?_) | (refine ac_region_h fun K hK => ?_; simp (disch := omega) [go_sem, *]) | (apply Hide.out hK; clear hK K; try with_reducible dsimp only [thenA]) | (apply Hide.out hf; clear ht hf Kt Kf) | (clear hK K; apply Hide.out hK; clear hK K; try with_reducible dsimp only [thenA]) | (refine ac_block ?_) | (refine ac_exit ?_; simp only [thenA, blockA, if_true]) | (refine ac_cond_h fun Kt Kf ht hf => ?_; simp (disch := omega) [go_sem, *]; try (refine ⟨fun hc => ?_, fun hc => ?_⟩ <;> try (exfalso; omega))))
        refine ac_loop_wk (fun s' => ∃ (i n' : Nat) (H : AHeap), n + 8 < n' ∧ i ≤ l.length ∧ BufIs (n + 1) H (n + 8) n' (catT ordT B l i) ∧ (∀ x, x < n → H x = h x) ∧ s' = ⟨53, [(5, .ptr (n + 8) 0), (27, .fslc nl fu s (l.map encO)), (28, iv .i64 l.length), (29, iv .i64 i)], H, n'⟩)
          (fun s' => l.length - (intAt s' 29).toNat) ?_ ?_
        · exact loop_start (by simp [go_sem]) (Sub.refl _) ⟨0, _, _, by (try simp only); omega, by omega, gB.out.le (by omega), g2.out, rfl⟩
        · clear gB g2 g0 hn'
          rintro s' ⟨i, n', H, hn', hi2, gB, g2, rfl⟩
          replace gB : Hide _ := gB
          replace g2 : Hide _ := g2
          by_cases hlt2 : i < l.length
          · obtain ⟨⟨nm, rk, k, f, o, nn, nl2, fu2, s2, ks⟩, hx⟩ : ∃ o, l[i] = o := ⟨_, rfl⟩
            have hmem : ∀ o, l[i] = o → o ∈ l := fun o e => e ▸ List.getElem_mem hlt2
            have hne : l ≠ [] := fun e => by rw [e] at hlt2; simp at hlt2
            obtain ⟨rfl, rfl⟩ := hnl.out.resolve_left hne
            have hwc := hw.out _ (hmem _ hx)
            have hok := List.all_eq_true.1 a4.out _ (hmem _ hx)
            obtain ⟨g1, g2', g3, g4, g5⟩ := ordOk_pr hok
            simp only at g1 g2' g3 g4 g5
            have k1 := show_spec (tot (.mk k f o nn nl2 fu2 s2 ks)) (.mk k f o nn nl2 fu2 s2 ks) (Nat.le_refl _) (by omega) hwc g4
            have k2 := itoa_spec (n := rk) (by omega) (by omega)
            have y1 := p2.out i hi2
            have y2 := dec_size g2' (by omega)
            have y3 : (shC (.mk k f o nn nl2 fu2 s2 ks)).size ≤ 3000 := by have := shC_size _ g4; omega
            haveI z2 : Sz nm 24 := ⟨g1⟩
            haveI z3 : Sz (dec rk) 21 := ⟨y2⟩
            haveI z4 : Sz (shC (.mk k f o nn nl2 fu2 s2 ks)) 3000 := ⟨y3⟩
            have hst := catT_step ordT B l (i := i) (x := ⟨nm, rk, .mk k f o nn nl2 fu2 s2 ks⟩) (by rw [List.getElem?_eq_getElem hlt2, hx])
            have hex : encO l[i] = .agg [sv nm, iv .i64 rk, iv .i64 k, iv .i64 f, iv .i64 o, iv .i64 nn, .fslc nl2 fu2 s2 (encL ks)] := by rw [hx]; rfl
            simp only [ordT, rkT] at hst
            simp only [encC] at k1
            replace hx : Hide _ := hx
            clear hmem hne hwc hok g4 g5
            generalize shC (.mk k f o nn nl2 fu2 s2 ks) = S at *
            generalize dec rk = D at *
            generalize encL ks = EL at *
            generalize catT ordT B l i = C at *
            iterate 11 (first | (refine ac_seq_h fun K hK => ?_) | (refine ac_region_h fun K hK => ?_; simp (disch := omega) [go_sem, *, ilt_true]) | (apply Hide.out hK; clear hK K; try with_reducible dsimp only [thenA]) | (apply Hide.out ht; clear ht hf Kt Kf) | (refine ac_block ?_) | (refine ac_skip ?_; simp only [thenA]) | (refine ac_cond_h fun Kt Kf ht hf => ?_; simp (disch := omega) [go_sem, *]; try (refine ⟨fun hc => ?_, fun hc => ?_⟩ <;> try (exfalso; omega))))
            refine ac_seq_h fun K2 hK2 => ?_
            refine ac_region_h fun K3 hK3 => ?_
            simp (disch := omega) [go_sem, *]
            refine hK3.out _ ?_
            clear hK3 K3
            try with_reducible dsimp only [thenA]
            refine hK2.out _ ?_
            clear hK2 K2
            refine ac_fzbox (t := 9) (c := [sv nm, iv .i64 rk, iv .i64 k, iv .i64 f, iv .i64 o, iv .i64 nn, .fslc nl2 fu2 s2 EL]) (upd_same _ _ _) (by simp [go_sem]) ?_
            have sO : (⟨#[111, 114, 100, 101, 114, 32]⟩ ++ nm).size = nm.size + 6 := by rw [ByteArray.size_append]; have : (⟨#[111, 114, 100, 101, 114, 32]⟩ : ByteArray).size = 6 := rfl; omega
            have sR : (⟨#[32, 114, 97, 110, 107, 32]⟩ ++ D).size = D.size + 6 := by rw [ByteArray.size_append]; have : (⟨#[32, 114, 97, 110, 107, 32]⟩ : ByteArray).size = 6 := rfl; omega
            have sT : (⟨#[32, 105, 102, 32]⟩ ++ S ++ ⟨#[59, 10]⟩).size = S.size + 6 := by rw [ByteArray.size_append, ByteArray.size_append]; have : (⟨#[32, 105, 102, 32]⟩ : ByteArray).size = 4 := rfl; have : (⟨#[59, 10]⟩ : ByteArray).size = 2 := rfl; omega
            replace sO : Hide _ := sO
            replace sR : Hide _ := sR
            replace sT : Hide _ := sT
            by_cases hr : rk = 0
            · subst hr
              have hst2 : C ++ (⟨#[111, 114, 100, 101, 114, 32]⟩ ++ nm) ++ (⟨#[32, 105, 102, 32]⟩ ++ S ++ ⟨#[59, 10]⟩) = catT ordT B l (i + 1) := by rw [← hst, if_pos rfl, app_nil]; simp only [app_assoc]
              clear hst
              replace hst2 : Hide _ := hst2
              repeat' (first | (refine ac_seq_h fun K hK => ?_) | (refine ac_region_h fun K hK => ?_; simp (disch := omega) [go_sem, *]))
              refine .inl ((write_spec ((((gB.out.upd (by omega)).upd (by omega)).upd (by omega)).le (by omega)) (by rw [sO.out]; omega) (by rw [sO.out]; omega)).mono fun r h1 n1 ⟨e1, ⟨z1, e2⟩, b1, e4⟩ => ?_)
              subst e2
              have f1 : Hide (∀ x, x < n → h1 x = h x) := fun x hx => by rw [e4 x (by omega), upd_ne _ _ _ _ (by omega), upd_ne _ _ _ _ (by omega), upd_ne _ _ _ _ (by omega)]; exact g2.out x hx
              clear e4
              replace b1 : Hide _ := b1
              repeat' (first | (refine ac_seq_h fun K hK => ?_) | (refine ac_region_h fun K hK => ?_; simp (disch := omega) [go_sem, *]) | (apply Hide.out hK; clear hK K; try with_reducible dsimp only [thenA]) | (apply Hide.out hf; clear ht hf Kt Kf) | (with_reducible refine APure.gcall (k1) ?_; try simp (disch := omega) [go_sem, *]) | (refine ac_skip ?_; simp only [thenA]) | (refine ac_cond_h fun Kt Kf ht hf => ?_; simp (disch := omega) [go_sem, *]; try (refine ⟨fun hc => ?_, fun hc => ?_⟩ <;> try (exfalso; omega))))
              refine .inl ((write_spec (b1.out.le (by omega)) (by rw [sT.out]; omega) (by rw [ByteArray.size_append, sO.out, sT.out]; omega)).mono fun r h2 n2 ⟨e1, ⟨z1, e2⟩, b2, e4⟩ => ?_)
              subst e2
              have f2 : Hide (∀ x, x < n → h2 x = h x) := fun x hx => by rw [e4 x (by omega)]; exact f1.out x hx
              clear e4
              rw [hst2.out] at b2
              replace b2 : Hide _ := b2
              repeat' (first | (refine ac_region_h fun K hK => ?_; simp (disch := omega) [go_sem, *, wrap64_id]) | (apply Hide.out hK; clear hK K; try with_reducible dsimp only [thenA]))
              exact round_end (by simp (disch := omega) [go_sem]) (Sub.refl _) ⟨i + 1, _, _, by (try simp only); omega, by omega, b2.out.le (by omega), f2.out, rfl⟩ (by simp [intAt, go_sem]; omega)
            · have hb1 : (rk == 0) = false := by simpa using hr
              have hb2 : (rk != 0) = true := by simpa using hr
              have hst2 : C ++ (⟨#[111, 114, 100, 101, 114, 32]⟩ ++ nm) ++ (⟨#[32, 114, 97, 110, 107, 32]⟩ ++ D) ++ (⟨#[32, 105, 102, 32]⟩ ++ S ++ ⟨#[59, 10]⟩) = catT ordT B l (i + 1) := by rw [← hst, if_neg hr]; simp only [app_assoc]
              clear hst
              replace hst2 : Hide _ := hst2
              repeat' (first | (refine ac_seq_h fun K hK => ?_) | (refine ac_region_h fun K hK => ?_; simp (disch := omega) [go_sem, *]))
              refine .inl ((write_spec ((((gB.out.upd (by omega)).upd (by omega)).upd (by omega)).le (by omega)) (by rw [sO.out]; omega) (by rw [sO.out]; omega)).mono fun r h1 n1 ⟨e1, ⟨z1, e2⟩, b1, e4⟩ => ?_)
              subst e2
              have f1 : Hide (∀ x, x < n → h1 x = h x) := fun x hx => by rw [e4 x (by omega), upd_ne _ _ _ _ (by omega), upd_ne _ _ _ _ (by omega), upd_ne _ _ _ _ (by omega)]; exact g2.out x hx
              clear e4
              replace b1 : Hide _ := b1
              repeat' (first | (refine ac_seq_h fun K hK => ?_) | (refine ac_region_h fun K hK => ?_; simp (disch := omega) [go_sem, *]) | (apply Hide.out hK; clear hK K; try with_reducible dsimp only [thenA]) | (apply Hide.out ht; clear ht hf Kt Kf) | (with_reducible refine APure.gcall (k2) ?_; try simp (disch := omega) [go_sem, *]) | (refine ac_cond_h fun Kt Kf ht hf => ?_; simp (disch := omega) [go_sem, *]; try (refine ⟨fun hc => ?_, fun hc => ?_⟩ <;> try (exfalso; omega))))
              refine .inl ((write_spec (b1.out.le (by omega)) (by rw [sR.out]; omega) (by rw [ByteArray.size_append, sO.out, sR.out]; omega)).mono fun r h2 n2 ⟨e1, ⟨z1, e2⟩, b2, e4⟩ => ?_)
              subst e2
              have f2 : Hide (∀ x, x < n → h2 x = h x) := fun x hx => by rw [e4 x (by omega)]; exact f1.out x hx
              clear e4
              replace b2 : Hide _ := b2
              repeat' (first | (refine ac_region_h fun K hK => ?_; simp (disch := omega) [go_sem, *]) | (apply Hide.out hK; clear hK K; try with_reducible dsimp only [thenA]) | (with_reducible refine APure.gcall (k1) ?_; try simp (disch := omega) [go_sem, *]))
              refine .inl ((write_spec (b2.out.le (by omega)) (by rw [sT.out]; omega) (by rw [ByteArray.size_append, ByteArray.size_append, sO.out, sR.out, sT.out]; omega)).mono fun r h3 n3 ⟨e1, ⟨z1, e2⟩, b3, e4⟩ => ?_)
              subst e2
              have f3 : Hide (∀ x, x < n → h3 x = h x) := fun x hx => by rw [e4 x (by omega)]; exact f2.out x hx
              clear e4
              rw [hst2.out] at b3
              replace b3 : Hide _ := b3
              repeat' (first | (refine ac_region_h fun K hK => ?_; simp (disch := omega) [go_sem, *, wrap64_id]) | (apply Hide.out hK; clear hK K; try with_reducible dsimp only [thenA]))
              exact round_end (by simp (disch := omega) [go_sem]) (Sub.refl _) ⟨i + 1, _, _, by (try simp only); omega, by omega, b3.out.le (by omega), f3.out, rfl⟩ (by simp [intAt, go_sem]; omega)
          · have hii : i = l.length := by omega
            subst hii
            have y1 := p2.out _ hi2
            rw [← hT.out] at gB y1
            repeat' (first | (refine ac_seq_h fun K hK => ?_) | (refine ac_region_h fun K hK => ?_; simp (disch := omega) [go_sem, *]) | (apply Hide.out hK; clear hK K; try with_reducible dsimp only [thenA]) | (apply Hide.out hf; clear ht hf Kt Kf) | (clear hK K; apply Hide.out hK; clear hK K; try with_reducible dsimp only [thenA]) | (refine ac_exit ?_; simp only [thenA, blockA, if_true]) | (refine ac_cond_h fun Kt Kf ht hf => ?_; simp (disch := omega) [go_sem, *]; try (refine ⟨fun hc => ?_, fun hc => ?_⟩ <;> try (exfalso; omega))))
            refine .inl ((string_spec (gB.out.le (by omega)) (by omega)).mono fun r h' n3 ⟨e1, e2, e4⟩ => ?_)
            subst e2
            replace e4 : Hide _ := e4
            repeat' (first | (apply Hide.out hK; clear hK K; try with_reducible dsimp only [thenA]) | (with_reducible show nextK _ _ _ _ _ _ _; simp (disch := omega) [go_sem, *]))
            refine ac_ret ?_
            try dsimp only [thenA, blockA]
            refine ⟨by simp, _, (by first | rfl | (simp (disch := omega) [go_sem, upd_ne] <;> rfl)), ?_⟩
            exact ret_id ⟨fun x hx => by rw [e4.out x (by omega)]; exact g2.out x hx, by simp [go_sem, below, belowL, resVal], by first | rfl | simp [go_sem, resVal], rfl, rfl⟩
  · rw [if_neg hz]
    generalize chkW ls l = e at *
    have hb1 : (e == 0) = false := by simpa using hz
    have hb2 : (e != 0) = true := by simpa using hz
    clear hnl hnlL hsL hw hs
    generalize List.map encLn ls = LL at *
    generalize List.map encO l = OO at *
    repeat' (first | (refine ac_seq_h fun K hK => ?_) | (refine ac_region_h fun K hK => ?_; simp (disch := omega) [go_sem, *, Tryz.ntmps25 ]) | (apply Hide.out hK; clear hK K; try with_reducible dsimp only [thenA]) | (apply Hide.out ht; clear ht hf Kt Kf) | (with_reducible refine APure.gcall (k0) ?_; try simp (disch := omega) [go_sem, * ]) | (refine ac_cond_h fun Kt Kf ht hf => ?_; simp (disch := omega) [go_sem, * ]; try (refine ⟨fun hc => ?_, fun hc => ?_⟩ <;> try (exfalso; omega))))
    (refine ac_ret ?_; try dsimp only [thenA, blockA]; refine ⟨by simp, _, (by first | rfl | (simp (disch := omega) [go_sem, upd_ne] <;> rfl)), ?_⟩; refine ret_id ⟨fun k hk => (by first | rfl | (repeat rw [upd_ne _ _ _ _ (by omega)])), (by simp [go_sem, below, belowL]), (by simp [go_sem] <;> omega), by simp, by simp⟩)
end Go.AM
