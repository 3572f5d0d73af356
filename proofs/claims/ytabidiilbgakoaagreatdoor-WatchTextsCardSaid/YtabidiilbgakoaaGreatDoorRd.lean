/- The law WatchTexts, walked. Conditions: as each theorem says. -/
import Derived.Test.YtabidiilbgakoaaGreatDoorRc
import Derived.Test.YtabidiilbgakoaaGreatDoorVc
import Derived.Test.YtabidiilbgakoaaGreatDoorPi
import Derived.Test.YtabidiilbgakoaaGreatDoorSe
namespace Go.AM
open Go.Proofs Cw Du
set_option maxRecDepth 10000
set_option maxHeartbeats 4000000
theorem fewW_smT {ls : List Lin} {l : List Ordr} (h : fewW ls l = true) (hL : ∀ x ∈ ls, QA x ∧ x.exc.length ≤ 9223372036854775807) (_hw : wfO l) : smL ls ∧ smO l ∧ ls.length ≤ 1000000 ∧ l.length ≤ 1000000 := by
  simp only [fewW, Bool.and_eq_true, List.all_eq_true] at h
  obtain ⟨⟨⟨h1, h2⟩, h3⟩, h4⟩ := h
  simp only [QH, Bool.or_eq_true, Bool.and_eq_true, decide_eq_true_eq] at h3 h4
  refine ⟨fun x hx => ?_, fun o ho => ?_, by omega, by omega⟩
  · have := h1 x hx
    simp only [litL, Bool.and_eq_true, decide_eq_true_eq] at this
    exact ⟨(hL x hx).1, by omega, by omega, by omega, by omega⟩
  · have := h2 o ho
    simp only [lit, Bool.and_eq_true, decide_eq_true_eq] at this
    exact ⟨by omega, by omega⟩
theorem qb (x : List Lin × List Ordr) : ∃ nl1 fu1 z1 nl2 fu2 z2, QL x = .agg [.fslc nl1 fu1 z1 (x.1.map zX), .fslc nl2 fu2 z2 (x.2.map zp)] ∧ (x.1 = [] ∨ nl1 = false ∧ z1 = 8) ∧ (x.2 = [] ∨ nl2 = false ∧ z2 = 7) := by
  obtain ⟨a1, a2, a3, h1, h2⟩ := row_gen 8 (x.1.map zX)
  obtain ⟨b1, b2, b3, h3, h4⟩ := row_gen 7 (x.2.map zp)
  exact ⟨a1, a2, a3, b1, b2, b3, by rw [QL, h1, h3], by rcases h2 with h | h; exact .inl (List.map_eq_nil_iff.1 h); exact .inr h, by rcases h4 with h | h; exact .inl (List.map_eq_nil_iff.1 h); exact .inr h⟩
theorem same_back (nlV fuV : Bool) (sV : Nat) (V : List Lin) (nlA fuA : Bool) (sA : Nat) (A : List Ordr) (h1 : V = [] ∨ nlV = false ∧ sV = 8) (h2 : A = [] ∨ nlA = false ∧ sA = 7) (hV : smL V) (hA : wfO A) (hc : ji V A = 0) :
    zK Tryz.prog 22 [.agg [.fslc nlV fuV sV (V.map zX), .fslc nlA fuA sA (A.map zp)], QL (V.map Zq, A.map j4)] (bv true) := by
  obtain ⟨n1, f1, z1, n2, f2, z2, e, g1, g2⟩ := qb (V.map Zq, A.map j4)
  obtain ⟨c1, c2, c3, c4⟩ := Q0 hc
  rw [e]
  refine rsameW_spec nlV fuV sV V nlA fuA sA A n1 f1 z1 _ n2 f2 z2 _ h1 h2 g1 g2 (by omega) (by omega) (fun x hx => ⟨(hV x hx).1, by have := (hV x hx).2.1; omega⟩) (fun x hx => ?_) hA (fun o ho => ?_) (fun o ho => ?_) ?_ ?_
  · obtain ⟨y, hy, rfl⟩ := List.mem_map.1 hx
    obtain ⟨_, _, _, _, _, _, _, h8, h9⟩ := normL_eq y
    exact ⟨h9, by rw [h8]; have := (hV y hy).2.1; omega⟩
  · obtain ⟨y, hy, rfl⟩ := List.mem_map.1 ho
    exact wf_norm _
  · have := (QT (List.all_eq_true.1 c4 o ho)).2.2.2.2
    omega
  · rw [List.map_map]; exact List.map_congr_left fun x _ => (sayL_norm x).symm
  · rw [List.map_map]; exact List.map_congr_left fun x _ => (sayO_norm x).symm
theorem parse_good {s : ByteArray} (h : (Z3 s).2.1 = 0) : ∃ x, Z3 s = (x, 0, 0) ∧ ji x.1 x.2 = 0 ∧ smL x.1 ∧ wfO x.2 ∧ smO x.2 ∧ x.1.length ≤ 6000 ∧ x.2.length ≤ 6000 := by
  obtain ⟨x, ⟨h1, h2, h3⟩ | ⟨h1, _⟩⟩ := parseR_ok h
  · exact ⟨x, h2, h3, readR_wf h1⟩
  · exact ⟨([], []), h1, rfl, fun _ h => (by cases h), fun _ h => (by cases h), fun _ h => (by cases h), by decide, by decide⟩
theorem txT_size {ls : List Lin} {l : List Ordr} (h : ji ls l = 0) : (txT ls l).size ≤ 1000000 := by
  obtain ⟨c1, c2, c3, c4⟩ := Q0 h
  have := (prAll c3 c4 c1 c2).2 l.length (Nat.le_refl _)
  show (JK qk _ l l.length).size ≤ _
  omega
theorem WatchTexts_spec (nlL nl : Bool) (ls : List Lin) (l : List Ordr) (hnlL : ls = [] ∨ nlL = false ∧ 8 = 8) (hL : ∀ x ∈ ls, QA x ∧ x.exc.length ≤ 9223372036854775807) (hlL : ls.length ≤ 9223372036854775807) (hnl : l = [] ∨ nl = false ∧ 7 = 7) (hw : wfO l) (hl : l.length ≤ 9223372036854775807) (c : Cnd) (hc : wf c) (src : ByteArray) :
    zK Tryz.prog 7 [.agg [.fslc nlL false 8 (ls.map zX), .fslc nl false 7 (l.map zp)], zn c, sv src] (bv true) := by
  intro h n
  have k0 := few_spec nlL false 8 ls hnlL hL hlL nl false 7 l hnl hw hl
  have k9 := Go.Proofs.SAN.sanity_ok
  have k8 := small_spec c hc
  refine zQ.pure (zQ.entry (by kernel_rfl) fun hb _ => za Tryz.func7 rfl (by kernel_rfl) (by simp [Tryz.ntmps7]) ?_)
  cases hf : fewW ls l with
  | false =>
    rw [hf] at k0
    obtain ⟨ck, cf, co, cn, cnl, cfu, cs, cks⟩ := c
    simp only [zn] at *
    generalize ZE cks = EL at *
    generalize List.map zX ls = LL at *
    generalize List.map zp l = OO at *
    clear hf hnlL hL hlL hnl hw hl hc
    generalize decide (tot _ ≤ 80) = tt at k8
    repeat' (first | (refine zF fun K hK => ?_) | (refine zA fun K hK => ?_; simp (disch := omega) [go_sem, *, zB, Tryz.ntmps7 ]) | (apply zC.out hK; clear hK K; try with_reducible dsimp only [zG]) | (apply zC.out ht; clear ht hf Kt Kf) | (with_reducible refine zK.gcall (k0) ?_; try simp (disch := omega) [go_sem, * ]) | (with_reducible refine zK.gcall (k9) ?_; try simp (disch := omega) [go_sem, * ]) | (refine zH fun Kt Kf ht hf => ?_; simp (disch := omega) [go_sem, * ]; try (refine ⟨fun hc => ?_, fun hc => ?_⟩ <;> try (exfalso; omega))))
    all_goals exact zR
  | true =>
    rw [hf] at k0
    obtain ⟨g1, g2, g3, g4⟩ := fewW_smT hf hL hw
    cases hs : decide (tot c ≤ 80) with
    | false =>
      rw [hs] at k8
      obtain ⟨ck, cf, co, cn, cnl, cfu, cs, cks⟩ := c
      simp only [zn] at *
      generalize ZE cks = EL at *
      generalize List.map zX ls = LL at *
      generalize List.map zp l = OO at *
      clear hf hnlL hL hlL hnl hw hl hc hs
      repeat' (first | (refine zF fun K hK => ?_) | (refine zA fun K hK => ?_; simp (disch := omega) [go_sem, *, zB, Tryz.ntmps7 ]) | (apply zC.out hK; clear hK K; try with_reducible dsimp only [zG]) | (apply zC.out ht; clear ht hf Kt Kf) | (with_reducible refine zK.gcall (k0) ?_; try simp (disch := omega) [go_sem, * ]) | (with_reducible refine zK.gcall (k9) ?_; try simp (disch := omega) [go_sem, * ]) | (with_reducible refine zK.gcall (k8) ?_; try simp (disch := omega) [go_sem, * ]) | (refine zH fun Kt Kf ht hf => ?_; simp (disch := omega) [go_sem, * ]; try (refine ⟨fun hc => ?_, fun hc => ?_⟩ <;> try (exfalso; omega))))
      all_goals exact zR
    | true =>
      rw [hs] at k8
      have hs' : tot c ≤ 80 := by simpa using hs
      by_cases hz : 1500 < src.size
      · obtain ⟨ck, cf, co, cn, cnl, cfu, cs, cks⟩ := c
        simp only [zn] at *
        generalize ZE cks = EL at *
        generalize List.map zX ls = LL at *
        generalize List.map zp l = OO at *
        clear hf hnlL hL hlL hnl hw hl hc hs hs' g1 g2 g3 g4
        repeat' (first | (refine zF fun K hK => ?_) | (refine zA fun K hK => ?_; simp (disch := omega) [go_sem, *, zB, Tryz.ntmps7 ]) | (apply zC.out hK; clear hK K; try with_reducible dsimp only [zG]) | (apply zC.out ht; clear ht hf Kt Kf) | (with_reducible refine zK.gcall (k0) ?_; try simp (disch := omega) [go_sem, * ]) | (with_reducible refine zK.gcall (k9) ?_; try simp (disch := omega) [go_sem, * ]) | (with_reducible refine zK.gcall (k8) ?_; try simp (disch := omega) [go_sem, *, zO ]) | (refine zH fun Kt Kf ht hf => ?_; simp (disch := omega) [go_sem, * ]; try (refine ⟨fun hc => ?_, fun hc => ?_⟩ <;> try (exfalso; omega))))
        all_goals exact zR
      · have hsrc : src.size ≤ 1500 := by omega
        have k1 := Print_spec nlL false 8 ls hnlL g1 g3 nl false 7 l hnl hw g2 g4
        have kc := PrintCond_spec c hc (by omega)
        have hsame := fun (h : Cw.formed c = true) => QR 80 c (ZI c) hs' (by omega) hc (wf_norm c) (say_norm c).symm
        have hpb := fun (h : Cw.formed c = true) => parsec_back h
        obtain ⟨ck, cf, co, cn, cnl, cfu, cs, cks⟩ := c
        generalize hcc : (Cnd.mk ck cf co cn cnl cfu cs cks) = c at *
        have ec : zn c = .agg [iv .i64 ck, iv .i64 cf, iv .i64 co, iv .i64 cn, .fslc cnl cfu cs (ZE cks)] := by rw [← hcc]; rfl
        rw [ec] at k8 kc hsame
        try rw [ec]
        clear hcc ec
        have hbk := fun (h : ji ls l = 0) => same_back nlL false 8 ls nl false 7 l hnlL hnl g1 hw h
        have hts := fun (h : ji ls l = 0) (h2 : (txT ls l).size ≤ 6000) => parse_back h h2
        replace hbk : zC _ := hbk
        replace hts : zC _ := hts
        replace hsame : zC _ := hsame
        replace hpb : zC _ := hpb
        clear hnlL hL hlL hnl hw hl g1 g2 g3 g4 hf
        generalize List.map zX ls = LL at *
        generalize List.map zp l = OO at *
        generalize ZE cks = EL at *
        iterate 21 (first | (refine zF fun K hK => ?_) | (refine zA fun K hK => ?_; simp (disch := omega) [go_sem, *, zB, Tryz.ntmps7 ]) | (apply zC.out hK; clear hK K; try with_reducible dsimp only [zG]) | (apply zC.out hf; clear ht hf Kt Kf) | (with_reducible refine zK.gcall (k0) ?_; try simp (disch := omega) [go_sem, * ]) | (with_reducible refine zK.gcall (k8) ?_; try simp (disch := omega) [go_sem, *, zT ]) | (with_reducible refine zK.gcall (k1) ?_; try simp (disch := omega) [go_sem, * ]) | (refine zL ?_; simp only [zG]) | (refine zH fun Kt Kf ht hf => ?_; simp (disch := omega) [go_sem, * ]; try (refine ⟨fun hc => ?_, fun hc => ?_⟩ <;> try (exfalso; omega))))
        refine J2 (fun s' => ∃ (n' : Nat) (H1 : zI), n + 2 ≤ n' ∧ H1 n = some (.cells [.fslc nlL false 8 LL, .fslc nl false 7 OO]) ∧ H1 (n + 1) = some (.cells [iv .i64 ck, iv .i64 cf, iv .i64 co, iv .i64 cn, .fslc cnl cfu cs EL]) ∧ (∀ x, x < n → H1 x = h x) ∧ s' = ⟨128, [(4, .ptr (n + 1) 0), (3, .ptr n 0), (2, sv src)], H1, n'⟩) ?_ ?_
        · rintro s' ⟨n', H1, hn', b1, b2, b3, rfl⟩
          refine hK.out _ ?_
          clear hK K k1 k0 k8 hbk hts
          replace b3 : zC _ := b3
          iterate 6 (first | (refine zF fun K hK => ?_) | (refine zA fun K hK => ?_; simp (disch := omega) [go_sem, * ]) | (apply zC.out hK; clear hK K; try with_reducible dsimp only [zG]) | (with_reducible refine zK.gcall (kc) ?_; try simp (disch := omega) [go_sem, * ]))
          refine J2 (fun s' => ∃ (n2 : Nat) (H2 : zI), n + 2 ≤ n2 ∧ H2 n = some (.cells [.fslc nlL false 8 LL, .fslc nl false 7 OO]) ∧ H2 (n + 1) = some (.cells [iv .i64 ck, iv .i64 cf, iv .i64 co, iv .i64 cn, .fslc cnl cfu cs EL]) ∧ (∀ x, x < n → H2 x = h x) ∧ s' = ⟨128, [(4, .ptr (n + 1) 0), (3, .ptr n 0), (2, sv src)], H2, n2⟩) ?_ ?_
          · rintro s' ⟨n2, H2, hn2, d1, d2, d3, rfl⟩
            refine hK.out _ ?_
            clear hK K kc hsame hpb b1 b2 b3 hn' n' H1
            replace d3 : zC _ := d3
            have kp := Parse_spec src (by omega)
            by_cases he : (Z3 src).2.1 = 0
            · obtain ⟨x, hP, hc0, w1, w2, w3, w4, w5⟩ := parse_good he
              rw [hP] at kp
              obtain ⟨q1, q2, q3, q4, q5, q6, ex, g1, g2⟩ := qb x
              have kq := Print_spec q1 q2 q3 x.1 g1 w1 (by omega) q4 q5 q6 x.2 g2 w2 w3 (by omega)
              have hpw : pwT x.1 x.2 = txT x.1 x.2 := by rw [pwT, if_pos hc0]
              rw [hpw, hc0] at kq
              have hsz0 := txT_size hc0
              have hbk0 := same_back q1 q2 q3 x.1 q4 q5 q6 x.2 g1 g2 w1 w2 hc0
              have hts0 := fun h2 => parse_back hc0 h2
              clear w1 w2 w3 w4 w5 hP he hc0 g1 g2 hpw
              simp only [ex] at kp
              clear ex
              by_cases h1 : (txT x.1 x.2).size ≤ 6000
              · have ks := Parse_spec (txT x.1 x.2) hsz0
                rw [hts0 h1] at ks
                obtain ⟨a1, a2, a3, a4, a5, a6, ea, -, -⟩ := qb (x.1.map Zq, x.2.map j4)
                simp only [ea] at ks hbk0
                clear hts0 hsz0 ea
                generalize txT x.1 x.2 = X at *
                generalize List.map zX (x.1.map Zq) = L1 at *
                generalize List.map zp (x.2.map j4) = O1 at *
                generalize List.map zX x.1 = L2 at *
                generalize List.map zp x.2 = O2 at *
                repeat' (first | (refine zF fun K hK => ?_) | (refine zA fun K hK => ?_; simp (disch := omega) [go_sem, *, zT ]) | (apply zC.out hK; clear hK K; try with_reducible dsimp only [zG]) | (apply zC.out hf; clear ht hf Kt Kf) | (with_reducible refine zK.gcall (kp) ?_; try simp (disch := omega) [go_sem, * ]) | (with_reducible refine zK.gcall (kq) ?_; try simp (disch := omega) [go_sem, * ]) | (with_reducible refine zK.gcall (ks) ?_; try simp (disch := omega) [go_sem, * ]) | (with_reducible refine zK.gcall (hbk0) ?_; try simp (disch := omega) [go_sem, * ]) | (with_reducible refine zK.gcall (k9) ?_; try simp (disch := omega) [go_sem, *, zB ]) | (refine zL ?_; simp only [zG]) | (refine zH fun Kt Kf ht hf => ?_; simp (disch := omega) [go_sem, * ]; try (refine ⟨fun hc => ?_, fun hc => ?_⟩ <;> try (exfalso; omega))))
                refine zb ?_
                try dsimp only [zG, zN]
                refine ⟨by simp, _, (by first | rfl | (simp (disch := omega) [go_sem, zB] <;> rfl)), ?_⟩
                refine zY ⟨fun x hx => ?_, (by simp [go_sem, below]), rfl, rfl, rfl⟩
                simp (disch := omega) [zB, d3.out x hx]
              · clear hts0 hsz0 hbk0
                generalize txT x.1 x.2 = X at *
                generalize List.map zX x.1 = L2 at *
                generalize List.map zp x.2 = O2 at *
                repeat' (first | (refine zF fun K hK => ?_) | (refine zA fun K hK => ?_; simp (disch := omega) [go_sem, *, zO ]) | (apply zC.out hK; clear hK K; try with_reducible dsimp only [zG]) | (apply zC.out ht; clear ht hf Kt Kf) | (apply zC.out hf; clear ht hf Kt Kf) | (with_reducible refine zK.gcall (kp) ?_; try simp (disch := omega) [go_sem, * ]) | (with_reducible refine zK.gcall (kq) ?_; try simp (disch := omega) [go_sem, * ]) | (with_reducible refine zK.gcall (k9) ?_; try simp (disch := omega) [go_sem, * ]) | (refine zL ?_; simp only [zG]) | (refine zH fun Kt Kf ht hf => ?_; simp (disch := omega) [go_sem, * ]; try (refine ⟨fun hc => ?_, fun hc => ?_⟩ <;> try (exfalso; omega))))
                refine zb ?_
                try dsimp only [zG, zN]
                refine ⟨by simp, _, (by first | rfl | (simp (disch := omega) [go_sem, zB] <;> rfl)), ?_⟩
                refine zY ⟨fun x hx => ?_, (by simp [go_sem, below]), rfl, rfl, rfl⟩
                simp (disch := omega) [zB, d3.out x hx]
            · have he2 : ((Z3 src).2.1 != 0) = true := by simpa using he
              obtain ⟨q1, q2, q3, q4, q5, q6, ex, g1, g2⟩ := qb (Z3 src).1
              simp only [ex] at kp
              clear ex g1 g2
              generalize List.map zX (Z3 src).1.1 = L2 at *
              generalize List.map zp (Z3 src).1.2 = O2 at *
              generalize Z3 src = P at *
              repeat' (first | (refine zF fun K hK => ?_) | (refine zA fun K hK => ?_; simp (disch := omega) [go_sem, * ]) | (apply zC.out hK; clear hK K; try with_reducible dsimp only [zG]) | (apply zC.out ht; clear ht hf Kt Kf) | (with_reducible refine zK.gcall (kp) ?_; try simp (disch := omega) [go_sem, * ]) | (with_reducible refine zK.gcall (k9) ?_; try simp (disch := omega) [go_sem, * ]) | (refine zH fun Kt Kf ht hf => ?_; simp (disch := omega) [go_sem, * ]; try (refine ⟨fun hc => ?_, fun hc => ?_⟩ <;> try (exfalso; omega))))
              refine zb ?_
              try dsimp only [zG, zN]
              refine ⟨by simp, _, (by first | rfl | (simp (disch := omega) [go_sem, zB] <;> rfl)), ?_⟩
              refine zY ⟨fun x hx => ?_, (by simp [go_sem, below]), rfl, rfl, rfl⟩
              simp (disch := omega) [zB, d3.out x hx]
          · cases hfc : Cw.formed c with
            | true =>
              have kr := ParseCond_spec (shC c) (by have := qO c (Qu hfc).1; have := (Qu hfc).2; omega)
              rw [hpb.out hfc] at kr
              have hsm := hsame.out hfc
              have e1 : pcT c = shC c := by rw [pcT, if_pos hfc]
              have e2 : pcE c = 0 := by rw [pcE, if_pos hfc]
              rw [e1, e2]
              generalize ZI c = N at *
              obtain ⟨dk, df, do_, dn, dnl, dfu, ds, dks⟩ := N
              simp only [zn] at kr hsm
              generalize shC c = X at *
              generalize ZE dks = E2 at *
              clear kc e1 e2
              replace hfc : zC _ := hfc
              repeat' (first | (refine zF fun K hK => ?_) | (refine zA fun K hK => ?_; simp (disch := omega) [go_sem, *, zB ]) | (apply zC.out hK; clear hK K; try with_reducible dsimp only [zG]) | (apply zC.out ht; clear ht hf Kt Kf) | (apply zC.out hf; clear ht hf Kt Kf) | (with_reducible refine zK.gcall (kr) ?_; try simp (disch := omega) [go_sem, * ]) | (with_reducible refine zK.gcall (hsm) ?_; try simp (disch := omega) [go_sem, * ]) | (refine zL ?_; simp only [zG]) | (refine zH fun Kt Kf ht hf => ?_; simp (disch := omega) [go_sem, * ]; try (refine ⟨fun hc => ?_, fun hc => ?_⟩ <;> try (exfalso; omega))))
              refine zS (s' := [(4, .ptr (n + 1) 0), (3, .ptr n 0), (2, sv src)]) (by simp [go_sem]) (Sub.refl _) ⟨_, _, ?_, ?_, ?_, ?_, rfl⟩
              · (try simp only); omega
              · simp (disch := omega) [zB, b1]
              · simp (disch := omega) [zB, b2]
              · intro x hx; simp (disch := omega) [zB, b3.out x hx]
            | false =>
              have e2 : pcE c = 7 := by rw [pcE, if_neg (by simp [hfc])]
              rw [e2]
              clear kc e2
              generalize pcT c = X at *
              replace hfc : zC _ := hfc
              repeat' (first | (refine zF fun K hK => ?_) | (refine zA fun K hK => ?_; simp (disch := omega) [go_sem, *]) | (apply zC.out hK; clear hK K; try with_reducible dsimp only [zG]) | (apply zC.out hf; clear ht hf Kt Kf) | (refine zL ?_; simp only [zG]) | (refine zH fun Kt Kf ht hf => ?_; simp (disch := omega) [go_sem, *]; try (refine ⟨fun hc => ?_, fun hc => ?_⟩ <;> try (exfalso; omega))))
              refine zS (s' := [(4, .ptr (n + 1) 0), (3, .ptr n 0), (2, sv src)]) (by simp [go_sem]) (Sub.refl _) ⟨_, _, ?_, ?_, ?_, ?_, rfl⟩
              · (try simp only); omega
              · simp (disch := omega) [b1]
              · simp (disch := omega) [b2]
              · intro x hx; simp (disch := omega) [b3.out x hx]
        · skip
          by_cases h0 : ji ls l = 0
          · have hsz0 := txT_size h0
            have hpw : pwT ls l = txT ls l := by rw [pwT, if_pos h0]
            have hbk0 := hbk.out h0
            have hts0 := fun h2 => hts.out h0 h2
            by_cases h1 : (txT ls l).size ≤ 6000
            · have kp := Parse_spec (txT ls l) hsz0
              rw [hts0 h1] at kp
              obtain ⟨a1, a2, a3, a4, a5, a6, ea, -, -⟩ := qb (ls.map Zq, l.map j4)
              simp only [ea] at kp hbk0
              rw [hpw, h0]
              generalize txT ls l = X at *
              generalize List.map zX (ls.map Zq) = L1 at *
              generalize List.map zp (l.map j4) = O1 at *
              clear hts0 hsz0 k1 ea hpw
              replace h0 : zC _ := h0
              repeat' (first | (refine zF fun K hK => ?_) | (refine zA fun K hK => ?_; simp (disch := omega) [go_sem, *, zB, zP ]) | (apply zC.out hK; clear hK K; try with_reducible dsimp only [zG]) | (apply zC.out ht; clear ht hf Kt Kf) | (apply zC.out hf; clear ht hf Kt Kf) | (with_reducible refine zK.gcall (kp) ?_; try simp (disch := omega) [go_sem, * ]) | (with_reducible refine zK.gcall (hbk0) ?_; try simp (disch := omega) [go_sem, * ]) | (refine zL ?_; simp only [zG]) | (refine zH fun Kt Kf ht hf => ?_; simp (disch := omega) [go_sem, * ]; try (refine ⟨fun hc => ?_, fun hc => ?_⟩ <;> try (exfalso; omega))))
              refine zS (s' := [(4, .ptr (n + 1) 0), (3, .ptr n 0), (2, sv src)]) (by simp [go_sem]) (Sub.refl _) ⟨_, _, ?_, ?_, ?_, ?_, rfl⟩
              · (try simp only); omega
              · simp (disch := omega) [zB, zD]
              · simp (disch := omega) [zB, zD]
              · intro x hx; simp (disch := omega) [zB]
            · rw [hpw, h0]
              generalize txT ls l = X at *
              clear hts0 hsz0 k1 hpw
              replace h0 : zC _ := h0
              repeat' (first | (refine zF fun K hK => ?_) | (refine zA fun K hK => ?_; simp (disch := omega) [go_sem, *, zg]) | (apply zC.out hK; clear hK K; try with_reducible dsimp only [zG]) | (apply zC.out hf; clear ht hf Kt Kf) | (refine zL ?_; simp only [zG]) | (refine zH fun Kt Kf ht hf => ?_; simp (disch := omega) [go_sem, *]; try (refine ⟨fun hc => ?_, fun hc => ?_⟩ <;> try (exfalso; omega))))
              refine zS (s' := [(4, .ptr (n + 1) 0), (3, .ptr n 0), (2, sv src)]) (by simp [go_sem]) (Sub.refl _) ⟨_, _, ?_, ?_, ?_, ?_, rfl⟩
              · (try simp only); omega
              · simp (disch := omega) [zB, zD]
              · simp (disch := omega) [zD]
              · intro x hx; simp (disch := omega) [zB]
          · have hpw : (ji ls l == 0) = false := by simpa using h0
            generalize ji ls l = E at *
            clear k1
            replace h0 : zC _ := h0
            repeat' (first | (refine zF fun K hK => ?_) | (refine zA fun K hK => ?_; simp (disch := omega) [go_sem, *]) | (apply zC.out hK; clear hK K; try with_reducible dsimp only [zG]) | (apply zC.out hf; clear ht hf Kt Kf) | (refine zL ?_; simp only [zG]) | (refine zH fun Kt Kf ht hf => ?_; simp (disch := omega) [go_sem, *]; try (refine ⟨fun hc => ?_, fun hc => ?_⟩ <;> try (exfalso; omega))))
            refine zS (s' := [(4, .ptr (n + 1) 0), (3, .ptr n 0), (2, sv src)]) (by simp [go_sem]) (Sub.refl _) ⟨_, _, ?_, ?_, ?_, ?_, rfl⟩
            · (try simp only); omega
            · simp (disch := omega) [zB, zD]
            · simp (disch := omega) [zD]
            · intro x hx; simp (disch := omega) [zB]
end Go.AM
