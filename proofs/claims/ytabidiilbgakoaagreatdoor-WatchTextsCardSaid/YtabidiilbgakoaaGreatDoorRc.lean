/- What is printed, read again: the same; a watch printed, by the program. Conditions: as each theorem says. -/
import Derived.Test.YtabidiilbgakoaaGreatDoorRb
import Derived.Test.YtabidiilbgakoaaGreatDoorQh
import Derived.Test.YtabidiilbgakoaaGreatDoorPg
import Derived.Test.YtabidiilbgakoaaGreatDoorPd
namespace Go.AM
open Go.Proofs Cw Du
set_option maxRecDepth 10000
mutual
theorem tot_norm : ∀ c, tot (ZI c) = tot c
  | .mk k f o n nl fu s ks => by simp only [ZI, tot, totL_norm ks]
theorem totL_norm : ∀ l, totL (jH l) = totL l
  | [] => rfl
  | c :: r => by simp only [jH, totL, tot_norm c, totL_norm r]
end
mutual
theorem dep_norm : ∀ c, dep (ZI c) = dep c
  | .mk k f o n nl fu s ks => by simp only [ZI, dep, depL_norm ks]
theorem depL_norm : ∀ l, depL (jH l) = depL l
  | [] => rfl
  | c :: r => by simp only [jH, depL, dep_norm c, depL_norm r]
end
theorem normCL_len : ∀ l, (jH l).length = l.length
  | [] => rfl
  | c :: r => by simp only [jH, List.length_cons, normCL_len r]
mutual
theorem ok_norm : ∀ c, Cw.ok (ZI c) = Cw.ok c
  | .mk k f o n nl fu s ks => by simp only [ZI, Cw.ok, okL_norm ks, normCL_len]
theorem okL_norm : ∀ l, Cw.okL (jH l) = Cw.okL l
  | [] => rfl
  | c :: r => by simp only [jH, Cw.okL, ok_norm c, okL_norm r]
end
theorem formed_norm (c : Cnd) : Cw.formed (ZI c) = Cw.formed c := by simp only [Cw.formed, ok_norm, tot_norm, dep_norm]
mutual
theorem wf_norm : ∀ c, wf (ZI c)
  | .mk _ _ _ _ _ _ _ [] => ⟨.inl rfl, trivial⟩
  | .mk _ _ _ _ _ _ _ (a :: r) => ⟨.inr ⟨rfl, rfl⟩, wfL_norm (a :: r)⟩
theorem wfL_norm : ∀ l, wfL (jH l)
  | [] => trivial
  | c :: r => ⟨wf_norm c, wfL_norm r⟩
end
mutual
theorem say_norm : ∀ c, sayC (ZI c) = sayC c
  | .mk k f o n nl fu s ks => by simp only [ZI, sayC, sayCL_norm ks]
theorem sayCL_norm : ∀ l, QD (jH l) = QD l
  | [] => rfl
  | c :: r => by simp only [jH, QD, say_norm c, sayCL_norm r]
end
theorem normL_eq (l : Lin) : (Zq l).kind = l.kind ∧ (Zq l).tower = l.tower ∧ (Zq l).person = l.person ∧ (Zq l).other = l.other ∧ (Zq l).fr = l.fr ∧ (Zq l).to = l.to ∧ (Zq l).ev = l.ev ∧ (Zq l).exc = l.exc ∧ QA (Zq l) := by
  unfold Zq mkLn
  by_cases h : l.exc = []
  · rw [if_pos h]; exact ⟨rfl, rfl, rfl, rfl, rfl, rfl, rfl, h.symm, .inl rfl⟩
  · rw [if_neg h]; exact ⟨rfl, rfl, rfl, rfl, rfl, rfl, rfl, rfl, .inr ⟨rfl, rfl⟩⟩
theorem line_norm (l : Lin) : ZQ (Zq l) = ZQ l := by
  obtain ⟨h1, h2, h3, h4, h5, h6, h7, h8, _⟩ := normL_eq l
  simp only [ZQ, Jy, h1, h2, h3, h4, h5, h6, h7, h8]
theorem ord_norm (o : Ordr) : Zz (j4 o) = Zz o := by
  simp only [Zz, j4, formed_norm]
theorem sayL_norm (l : Lin) : sayL (Zq l) = sayL l := by
  obtain ⟨h1, h2, h3, h4, h5, h6, h7, h8, _⟩ := normL_eq l
  simp only [sayL, h1, h2, h3, h4, h5, h6, h7, h8]
theorem sayO_norm (o : Ordr) : sayO (j4 o) = sayO o := by simp only [sayO, j4, say_norm]
theorem chk_norm (ls : List Lin) (os : List Ordr) : ji (ls.map Zq) (os.map j4) = ji ls os := by
  have e1 : (ls.map Zq).all ZQ = ls.all ZQ := by rw [List.all_map]; congr 1; funext l; exact line_norm l
  have e2 : (os.map j4).all Zz = os.all Zz := by rw [List.all_map]; congr 1; funext o; exact ord_norm o
  simp only [ji, List.length_map, e1, e2]
theorem parse_back {ls : List Lin} {os : List Ordr} (h : ji ls os = 0) (hs : (txT ls os).size ≤ 6000) : Z3 (txT ls os) = ((ls.map Zq, os.map j4), 0, 0) := by
  obtain ⟨_, _, h1, h2⟩ := Q0 h
  obtain ⟨T, hT, hR⟩ := watch_back (ls := ls) (os := os) (fun l hl => List.all_eq_true.1 h1 l hl) (fun o ho => List.all_eq_true.1 h2 o ho)
  have e : ZF qa (txT ls os) = (0, 0, some (ls.map Zq, os.map j4)) := by
    rw [ZF, if_neg (by omega), hT]
    simp only [qa, jA, hR _ (Nat.le_refl _)]
    rw [if_neg (by omega)]
  rw [Z3, e]
  simp only [ne_eq, not_true_eq_false, if_false, chk_norm, h]
theorem parsec_back {c : Cnd} (h : Cw.formed c = true) : qg (shC c) = (ZI c, 0, 0) := by
  obtain ⟨h1, h2⟩ := Qu h
  obtain ⟨T, hT, hR⟩ := cond_back h1
  have hs := qO c h1
  have e : ZF QP (shC c) = (0, 0, some (ZI c)) := by
    rw [ZF, if_neg (by omega), hT]
    simp only [QP, hR]
    rw [if_neg (by omega)]
  rw [qg, e]
  simp only [ne_eq, not_true_eq_false, if_false, formed_norm, h, if_true]
theorem parseR_ok {s : ByteArray} (h : (Z3 s).2.1 = 0) : ∃ x, (ZF qa s).2.2 = some x ∧ Z3 s = (x, 0, 0) ∧ ji x.1 x.2 = 0 ∨ (Z3 s = (([], []), 0, 0) ∧ (ZF qa s).2.2 = none) := by
  unfold Z3 at h ⊢
  split at h
  · rename_i h1
    exact absurd h h1
  · rename_i h1
    rw [if_neg h1]
    cases hX : (ZF qa s).2.2 with
    | none => exact ⟨([], []), .inr ⟨rfl, rfl⟩⟩
    | some x =>
      rw [hX] at h
      simp only at h ⊢
      by_cases hc : ji x.1 x.2 = 0
      · rw [if_neg (by simpa using hc)]
        exact ⟨x, .inl ⟨rfl, rfl, hc⟩⟩
      · rw [if_pos hc] at h
        exact absurd h hc
end Go.AM
namespace Go.AM
open Go.Proofs Cw Du
set_option maxRecDepth 10000
set_option maxHeartbeats 4000000
theorem BufIs.upd {N o n k : Nat} {H : zI} {B : ByteArray} {x : Option AObj} (hB : BufIs N H o n B) (hk : n ≤ k) : BufIs N (H.upd k x) o n B := by
  obtain ⟨h1, h2, ⟨h3, h4⟩ | ⟨m, h3, h4, h5, h6, h7, h8⟩⟩ := hB
  · exact ⟨h1, h2, .inl ⟨h3, by rw [zB _ _ _ _ (by omega)]; exact h4⟩⟩
  · exact ⟨h1, h2, .inr ⟨m, h3, h4, h5, h6, by rw [zB _ _ _ _ (by omega)]; exact h7, by rw [zB _ _ _ _ (by omega)]; exact h8⟩⟩
theorem BufIs.le {N o n n' : Nat} {H : zI} {B : ByteArray} (hB : BufIs N H o n B) (hn : n ≤ n') : BufIs N H o n' B := by
  obtain ⟨h1, h2, ⟨h3, h4⟩ | ⟨m, h3, h4, h5, h6, h7, h8⟩⟩ := hB
  · exact ⟨h1, by omega, .inl ⟨h3, h4⟩⟩
  · exact ⟨h1, by omega, .inr ⟨m, h3, by omega, h5, h6, h7, h8⟩⟩
theorem Print_spec (nlL fuL : Bool) (sL : Nat) (ls : List Lin) (hnlL : ls = [] ∨ nlL = false ∧ sL = 8) (hsL : smL ls) (hlL : ls.length ≤ 1000000) (nl fu : Bool) (s : Nat) (l : List Ordr) (hnl : l = [] ∨ nl = false ∧ s = 7) (hw : wfO l) (hs : smO l) (hl : l.length ≤ 1000000) :
    zK Tryz.prog 25 [.agg [.fslc nlL fuL sL (ls.map zX), .fslc nl fu s (l.map zp)]] (.tup [sv (pwT ls l), iv .i64 (ji ls l)]) := by
  intro h n
  have k0 := check_spec nlL fuL sL ls hnlL hsL hlL nl fu s l hnl hw hs hl
  refine zQ.pure (zQ.entry (by kernel_rfl) fun hb _ => za Tryz.func25 rfl (by kernel_rfl) (by simp [Tryz.ntmps25]) ?_)
  unfold pwT
  by_cases hz : ji ls l = 0
  · rw [if_pos hz]
    rw [hz] at k0 ⊢
    obtain ⟨a1, a2, a3, a4⟩ := Q0 hz
    obtain ⟨p1, p2⟩ := prAll a3 a4 a1 a2
    unfold txT
    replace hnl : zC _ := hnl
    replace hnlL : zC _ := hnlL
    replace hsL : zC _ := hsL
    replace hw : zC _ := hw
    replace hs : zC _ := hs
    replace a3 : zC _ := a3
    replace a4 : zC _ := a4
    replace p1 : zC _ := p1
    replace p2 : zC _ := p2
    clear hz
    obtain ⟨T, hT⟩ : ∃ T, zC (T = JK qk (JK qQ ⟨#[]⟩ ls ls.length) l l.length) := ⟨_, rfl⟩
    rw [← hT.out]
    repeat' (first | (refine zF fun K hK => ?_) | (refine zA fun K hK => ?_; simp (disch := omega) [go_sem, *, zB, Tryz.ntmps25 ]) | (apply zC.out hK; clear hK K; try with_reducible dsimp only [zG]) | (apply zC.out hf; clear ht hf Kt Kf) | (with_reducible refine zK.gcall (k0) ?_; try simp (disch := omega) [go_sem, * ]) | (refine zJ ?_) | (refine zL ?_; simp only [zG]) | (refine zH fun Kt Kf ht hf => ?_; simp (disch := omega) [go_sem, * ]; try (refine ⟨fun hc => ?_, fun hc => ?_⟩ <;> try (exfalso; omega))))
    refine z8 (fun s' => ∃ (i n' : Nat) (H : zI), n + 8 < n' ∧ i ≤ ls.length ∧ H n = some (.cells [.fslc nlL fuL sL (ls.map zX), .fslc nl fu s (l.map zp)]) ∧ BufIs (n + 1) H (n + 8) n' (JK qQ ⟨#[]⟩ ls i) ∧ (∀ x, x < n → H x = h x) ∧ s' = ⟨53, [(1, .ptr n 0), (5, .ptr (n + 8) 0), (16, .fslc nlL fuL sL (ls.map zX)), (17, iv .i64 ls.length), (18, iv .i64 i)], H, n'⟩)
      (fun s' => ls.length - (ZL s' 18).toNat) ?_ ?_
    · exact zS (by simp [go_sem]) (Sub.refl _) ⟨0, _, _, by (try simp only); omega, by omega, by rw [zB _ _ _ _ (by omega), zD], ⟨by omega, by omega, .inl ⟨rfl, zD _ _ _⟩⟩, fun x hx => by rw [zB _ _ _ _ (by omega), zB _ _ _ _ (by omega)], rfl⟩
    · rintro s' ⟨i, n', H, hn', hi, g0, gB, g2, rfl⟩
      replace gB : zC _ := gB
      replace g2 : zC _ := g2
      by_cases hlt : i < ls.length
      · obtain ⟨x, hx⟩ : ∃ o, ls[i] = o := ⟨_, rfl⟩
        have hmem : x ∈ ls := hx ▸ List.getElem_mem hlt
        have hne : ls ≠ [] := fun e => by rw [e] at hlt; simp at hlt
        obtain ⟨rfl, rfl⟩ := hnlL.out.resolve_left hne
        obtain ⟨q1, q2, q3, q4, q5⟩ := hsL.out _ hmem
        have hok := List.all_eq_true.1 a3.out x hmem
        have k1 := showLine_spec x q1 (Qo hok).1
        have z1 := p1.out i hi
        obtain ⟨z2, z3⟩ := linT_size hok
        have hst := catT_step qQ ⟨#[]⟩ ls (i := i) (x := x) (by rw [List.getElem?_eq_getElem hlt, hx])
        have hex : zX ls[i] = .agg [iv .i64 x.kind, sv x.tower, sv x.person, sv x.other, iv .i64 x.fr, iv .i64 x.to, iv .i64 x.ev, .fslc x.nl x.fu x.s (x.exc.map (iv .i64))] := by rw [hx]; rfl
        replace hst : zC _ := hst
        replace hx : zC _ := hx
        clear hmem hne q1 q2 q3 q4 q5 hok
        simp only [zX] at k1
        generalize qQ x = LX at *
        obtain ⟨kd, tw, pe, ot, fr, to, ev, xnl, xfu, xs, exc⟩ := x
        simp only at k1 hex
        generalize List.map (iv .i64) exc = X at *
        repeat' (first | (refine zF fun K hK => ?_) | (refine zA fun K hK => ?_; simp (disch := omega) [go_sem, *, zO, zP]) | (apply zC.out hK; clear hK K; try with_reducible dsimp only [zG]) | (apply zC.out ht; clear ht hf Kt Kf) | (with_reducible refine zK.gcall (k1) ?_; try simp (disch := omega) [go_sem, *]) | (refine zJ ?_) | (refine zL ?_; simp only [zG]) | (refine zH fun Kt Kf ht hf => ?_; simp (disch := omega) [go_sem, *]; try (refine ⟨fun hc => ?_, fun hc => ?_⟩ <;> try (exfalso; omega))))
        refine .inl ((JG (((gB.out.upd (by omega)).upd (by omega)).le (by omega)) z2 (by omega)).mono fun r h' n3 ⟨e1, ⟨z, e2⟩, e3, e4⟩ => ?_)
        subst e2
        rw [hst.out] at e3
        have e5 : h' n = H n := by rw [e4 n (by omega), zB _ _ _ _ (by omega), zB _ _ _ _ (by omega)]
        replace e4 : zC _ := e4
        replace e3 : zC _ := e3
        repeat' (first | (refine zA fun K hK => ?_; simp (disch := omega) [go_sem, *, zM]) | (apply zC.out hK; clear hK K; try with_reducible dsimp only [zG]))
        exact zl (by simp (disch := omega) [go_sem]) (Sub.refl _) ⟨i + 1, _, _, by (try simp only); omega, by omega, by rw [e5]; exact g0, e3.out.le (by omega), fun x hx => by rw [e4.out x (by omega), zB _ _ _ _ (by omega), zB _ _ _ _ (by omega)]; exact g2.out x hx, rfl⟩ (by simp [ZL, go_sem]; omega)
      · have hii : i = ls.length := by omega
        subst hii
        obtain ⟨B, hB⟩ : ∃ B, JK qQ ⟨#[]⟩ ls ls.length = B := ⟨_, rfl⟩
        rw [hB] at hT p2 gB
        clear hB p1 hlt
        repeat' (first | (refine zF fun K hK => ?_) | (refine zA fun K hK => ?_; simp (disch := omega) [go_sem, *]) | (apply zC.out hK; clear hK K; try with_reducible dsimp only [zG]) | (apply zC.out hf; clear ht hf Kt Kf) | (clear hK K; apply zC.out hK; clear hK K; try with_reducible dsimp only [zG]) | (refine zJ ?_) | (refine zk ?_; simp only [zG, zN, if_true]) | (refine zH fun Kt Kf ht hf => ?_; simp (disch := omega) [go_sem, *]; try (refine ⟨fun hc => ?_, fun hc => ?_⟩ <;> try (exfalso; omega))))
        refine z8 (fun s' => ∃ (i n' : Nat) (H : zI), n + 8 < n' ∧ i ≤ l.length ∧ BufIs (n + 1) H (n + 8) n' (JK qk B l i) ∧ (∀ x, x < n → H x = h x) ∧ s' = ⟨53, [(5, .ptr (n + 8) 0), (27, .fslc nl fu s (l.map zp)), (28, iv .i64 l.length), (29, iv .i64 i)], H, n'⟩)
          (fun s' => l.length - (ZL s' 29).toNat) ?_ ?_
        · exact zS (by simp [go_sem]) (Sub.refl _) ⟨0, _, _, by (try simp only); omega, by omega, gB.out.le (by omega), g2.out, rfl⟩
        · clear gB g2 g0 hn'
          rintro s' ⟨i, n', H, hn', hi2, gB, g2, rfl⟩
          replace gB : zC _ := gB
          replace g2 : zC _ := g2
          by_cases hlt2 : i < l.length
          · obtain ⟨⟨nm, rk, k, f, o, nn, nl2, fu2, s2, ks⟩, hx⟩ : ∃ o, l[i] = o := ⟨_, rfl⟩
            have hmem : ∀ o, l[i] = o → o ∈ l := fun o e => e ▸ List.getElem_mem hlt2
            have hne : l ≠ [] := fun e => by rw [e] at hlt2; simp at hlt2
            obtain ⟨rfl, rfl⟩ := hnl.out.resolve_left hne
            have hwc := hw.out _ (hmem _ hx)
            have hok := List.all_eq_true.1 a4.out _ (hmem _ hx)
            obtain ⟨g1, g2', g3, g4, g5⟩ := QT hok
            simp only at g1 g2' g3 g4 g5
            have k1 := show_spec (tot (.mk k f o nn nl2 fu2 s2 ks)) (.mk k f o nn nl2 fu2 s2 ks) (Nat.le_refl _) (by omega) hwc g4
            have k2 := Jg (n := rk) (by omega) (by omega)
            have y1 := p2.out i hi2
            have y2 := Zd g2' (by omega)
            have y3 : (shC (.mk k f o nn nl2 fu2 s2 ks)).size ≤ 3000 := by have := qO _ g4; omega
            haveI z2 : Sz nm 24 := ⟨g1⟩
            haveI z3 : Sz (dec rk) 21 := ⟨y2⟩
            haveI z4 : Sz (shC (.mk k f o nn nl2 fu2 s2 ks)) 3000 := ⟨y3⟩
            have hst := catT_step qk B l (i := i) (x := ⟨nm, rk, .mk k f o nn nl2 fu2 s2 ks⟩) (by rw [List.getElem?_eq_getElem hlt2, hx])
            have hex : zp l[i] = .agg [sv nm, iv .i64 rk, iv .i64 k, iv .i64 f, iv .i64 o, iv .i64 nn, .fslc nl2 fu2 s2 (ZE ks)] := by rw [hx]; rfl
            simp only [qk, rkT] at hst
            simp only [zn] at k1
            replace hx : zC _ := hx
            clear hmem hne hwc hok g4 g5
            generalize shC (.mk k f o nn nl2 fu2 s2 ks) = S at *
            generalize dec rk = D at *
            generalize ZE ks = EL at *
            generalize JK qk B l i = C at *
            iterate 11 (first | (refine zF fun K hK => ?_) | (refine zA fun K hK => ?_; simp (disch := omega) [go_sem, *, zO]) | (apply zC.out hK; clear hK K; try with_reducible dsimp only [zG]) | (apply zC.out ht; clear ht hf Kt Kf) | (refine zJ ?_) | (refine zL ?_; simp only [zG]) | (refine zH fun Kt Kf ht hf => ?_; simp (disch := omega) [go_sem, *]; try (refine ⟨fun hc => ?_, fun hc => ?_⟩ <;> try (exfalso; omega))))
            refine zF fun K2 hK2 => ?_
            refine zA fun K3 hK3 => ?_
            simp (disch := omega) [go_sem, *]
            refine hK3.out _ ?_
            clear hK3 K3
            try with_reducible dsimp only [zG]
            refine hK2.out _ ?_
            clear hK2 K2
            refine ac_fzbox (t := 9) (c := [sv nm, iv .i64 rk, iv .i64 k, iv .i64 f, iv .i64 o, iv .i64 nn, .fslc nl2 fu2 s2 EL]) (zD _ _ _) (by simp [go_sem]) ?_
            have sO : (⟨#[111, 114, 100, 101, 114, 32]⟩ ++ nm).size = nm.size + 6 := by rw [ByteArray.size_append]; have : (⟨#[111, 114, 100, 101, 114, 32]⟩ : ByteArray).size = 6 := rfl; omega
            have sR : (⟨#[32, 114, 97, 110, 107, 32]⟩ ++ D).size = D.size + 6 := by rw [ByteArray.size_append]; have : (⟨#[32, 114, 97, 110, 107, 32]⟩ : ByteArray).size = 6 := rfl; omega
            have sT : (⟨#[32, 105, 102, 32]⟩ ++ S ++ ⟨#[59, 10]⟩).size = S.size + 6 := by rw [ByteArray.size_append, ByteArray.size_append]; have : (⟨#[32, 105, 102, 32]⟩ : ByteArray).size = 4 := rfl; have : (⟨#[59, 10]⟩ : ByteArray).size = 2 := rfl; omega
            replace sO : zC _ := sO
            replace sR : zC _ := sR
            replace sT : zC _ := sT
            by_cases hr : rk = 0
            · subst hr
              have hst2 : C ++ (⟨#[111, 114, 100, 101, 114, 32]⟩ ++ nm) ++ (⟨#[32, 105, 102, 32]⟩ ++ S ++ ⟨#[59, 10]⟩) = JK qk B l (i + 1) := by rw [← hst, if_pos rfl, app_nil]; simp only [Zi]
              clear hst
              replace hst2 : zC _ := hst2
              repeat' (first | (refine zF fun K hK => ?_) | (refine zA fun K hK => ?_; simp (disch := omega) [go_sem, *]))
              refine .inl ((JG ((((gB.out.upd (by omega)).upd (by omega)).upd (by omega)).le (by omega)) (by rw [sO.out]; omega) (by rw [sO.out]; omega)).mono fun r h1 n1 ⟨e1, ⟨z1, e2⟩, b1, e4⟩ => ?_)
              subst e2
              have f1 : zC (∀ x, x < n → h1 x = h x) := fun x hx => by rw [e4 x (by omega), zB _ _ _ _ (by omega), zB _ _ _ _ (by omega), zB _ _ _ _ (by omega)]; exact g2.out x hx
              clear e4
              replace b1 : zC _ := b1
              repeat' (first | (refine zF fun K hK => ?_) | (refine zA fun K hK => ?_; simp (disch := omega) [go_sem, *]) | (apply zC.out hK; clear hK K; try with_reducible dsimp only [zG]) | (apply zC.out hf; clear ht hf Kt Kf) | (with_reducible refine zK.gcall (k1) ?_; try simp (disch := omega) [go_sem, *]) | (refine zL ?_; simp only [zG]) | (refine zH fun Kt Kf ht hf => ?_; simp (disch := omega) [go_sem, *]; try (refine ⟨fun hc => ?_, fun hc => ?_⟩ <;> try (exfalso; omega))))
              refine .inl ((JG (b1.out.le (by omega)) (by rw [sT.out]; omega) (by rw [ByteArray.size_append, sO.out, sT.out]; omega)).mono fun r h2 n2 ⟨e1, ⟨z1, e2⟩, b2, e4⟩ => ?_)
              subst e2
              have f2 : zC (∀ x, x < n → h2 x = h x) := fun x hx => by rw [e4 x (by omega)]; exact f1.out x hx
              clear e4
              rw [hst2.out] at b2
              replace b2 : zC _ := b2
              repeat' (first | (refine zA fun K hK => ?_; simp (disch := omega) [go_sem, *, zM]) | (apply zC.out hK; clear hK K; try with_reducible dsimp only [zG]))
              exact zl (by simp (disch := omega) [go_sem]) (Sub.refl _) ⟨i + 1, _, _, by (try simp only); omega, by omega, b2.out.le (by omega), f2.out, rfl⟩ (by simp [ZL, go_sem]; omega)
            · have hb1 : (rk == 0) = false := by simpa using hr
              have hb2 : (rk != 0) = true := by simpa using hr
              have hst2 : C ++ (⟨#[111, 114, 100, 101, 114, 32]⟩ ++ nm) ++ (⟨#[32, 114, 97, 110, 107, 32]⟩ ++ D) ++ (⟨#[32, 105, 102, 32]⟩ ++ S ++ ⟨#[59, 10]⟩) = JK qk B l (i + 1) := by rw [← hst, if_neg hr]; simp only [Zi]
              clear hst
              replace hst2 : zC _ := hst2
              repeat' (first | (refine zF fun K hK => ?_) | (refine zA fun K hK => ?_; simp (disch := omega) [go_sem, *]))
              refine .inl ((JG ((((gB.out.upd (by omega)).upd (by omega)).upd (by omega)).le (by omega)) (by rw [sO.out]; omega) (by rw [sO.out]; omega)).mono fun r h1 n1 ⟨e1, ⟨z1, e2⟩, b1, e4⟩ => ?_)
              subst e2
              have f1 : zC (∀ x, x < n → h1 x = h x) := fun x hx => by rw [e4 x (by omega), zB _ _ _ _ (by omega), zB _ _ _ _ (by omega), zB _ _ _ _ (by omega)]; exact g2.out x hx
              clear e4
              replace b1 : zC _ := b1
              repeat' (first | (refine zF fun K hK => ?_) | (refine zA fun K hK => ?_; simp (disch := omega) [go_sem, *]) | (apply zC.out hK; clear hK K; try with_reducible dsimp only [zG]) | (apply zC.out ht; clear ht hf Kt Kf) | (with_reducible refine zK.gcall (k2) ?_; try simp (disch := omega) [go_sem, *]) | (refine zH fun Kt Kf ht hf => ?_; simp (disch := omega) [go_sem, *]; try (refine ⟨fun hc => ?_, fun hc => ?_⟩ <;> try (exfalso; omega))))
              refine .inl ((JG (b1.out.le (by omega)) (by rw [sR.out]; omega) (by rw [ByteArray.size_append, sO.out, sR.out]; omega)).mono fun r h2 n2 ⟨e1, ⟨z1, e2⟩, b2, e4⟩ => ?_)
              subst e2
              have f2 : zC (∀ x, x < n → h2 x = h x) := fun x hx => by rw [e4 x (by omega)]; exact f1.out x hx
              clear e4
              replace b2 : zC _ := b2
              repeat' (first | (refine zA fun K hK => ?_; simp (disch := omega) [go_sem, *]) | (apply zC.out hK; clear hK K; try with_reducible dsimp only [zG]) | (with_reducible refine zK.gcall (k1) ?_; try simp (disch := omega) [go_sem, *]))
              refine .inl ((JG (b2.out.le (by omega)) (by rw [sT.out]; omega) (by rw [ByteArray.size_append, ByteArray.size_append, sO.out, sR.out, sT.out]; omega)).mono fun r h3 n3 ⟨e1, ⟨z1, e2⟩, b3, e4⟩ => ?_)
              subst e2
              have f3 : zC (∀ x, x < n → h3 x = h x) := fun x hx => by rw [e4 x (by omega)]; exact f2.out x hx
              clear e4
              rw [hst2.out] at b3
              replace b3 : zC _ := b3
              repeat' (first | (refine zA fun K hK => ?_; simp (disch := omega) [go_sem, *, zM]) | (apply zC.out hK; clear hK K; try with_reducible dsimp only [zG]))
              exact zl (by simp (disch := omega) [go_sem]) (Sub.refl _) ⟨i + 1, _, _, by (try simp only); omega, by omega, b3.out.le (by omega), f3.out, rfl⟩ (by simp [ZL, go_sem]; omega)
          · have hii : i = l.length := by omega
            subst hii
            have y1 := p2.out _ hi2
            rw [← hT.out] at gB y1
            repeat' (first | (refine zF fun K hK => ?_) | (refine zA fun K hK => ?_; simp (disch := omega) [go_sem, *]) | (apply zC.out hK; clear hK K; try with_reducible dsimp only [zG]) | (apply zC.out hf; clear ht hf Kt Kf) | (clear hK K; apply zC.out hK; clear hK K; try with_reducible dsimp only [zG]) | (refine zk ?_; simp only [zG, zN, if_true]) | (refine zH fun Kt Kf ht hf => ?_; simp (disch := omega) [go_sem, *]; try (refine ⟨fun hc => ?_, fun hc => ?_⟩ <;> try (exfalso; omega))))
            refine .inl ((string_spec (gB.out.le (by omega)) (by omega)).mono fun r h' n3 ⟨e1, e2, e4⟩ => ?_)
            subst e2
            replace e4 : zC _ := e4
            repeat' (first | (apply zC.out hK; clear hK K; try with_reducible dsimp only [zG]) | (with_reducible show nextK _ _ _ _ _ _ _; simp (disch := omega) [go_sem, *]))
            refine zb ?_
            try dsimp only [zG, zN]
            refine ⟨by simp, _, (by first | rfl | (simp (disch := omega) [go_sem, zB] <;> rfl)), ?_⟩
            exact zY ⟨fun x hx => by rw [e4.out x (by omega)]; exact g2.out x hx, by simp [go_sem, below, belowL, zr], by first | rfl | simp [go_sem, zr], rfl, rfl⟩
  · rw [if_neg hz]
    generalize ji ls l = e at *
    have hb1 : (e == 0) = false := by simpa using hz
    have hb2 : (e != 0) = true := by simpa using hz
    clear hnl hnlL hsL hw hs
    generalize List.map zX ls = LL at *
    generalize List.map zp l = OO at *
    repeat' (first | (refine zF fun K hK => ?_) | (refine zA fun K hK => ?_; simp (disch := omega) [go_sem, *, Tryz.ntmps25 ]) | (apply zC.out hK; clear hK K; try with_reducible dsimp only [zG]) | (apply zC.out ht; clear ht hf Kt Kf) | (with_reducible refine zK.gcall (k0) ?_; try simp (disch := omega) [go_sem, * ]) | (refine zH fun Kt Kf ht hf => ?_; simp (disch := omega) [go_sem, * ]; try (refine ⟨fun hc => ?_, fun hc => ?_⟩ <;> try (exfalso; omega))))
    (refine zb ?_; try dsimp only [zG, zN]; refine ⟨by simp, _, (by first | rfl | (simp (disch := omega) [go_sem, zB] <;> rfl)), ?_⟩; refine zY ⟨fun k hk => (by first | rfl | (repeat rw [zB _ _ _ _ (by omega)])), (by simp [go_sem, below, belowL]), (by simp [go_sem] <;> omega), by simp, by simp⟩)
end Go.AM
