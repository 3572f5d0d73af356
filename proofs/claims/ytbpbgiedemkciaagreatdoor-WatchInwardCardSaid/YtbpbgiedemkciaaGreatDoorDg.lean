/- The program's first difference. Conditions: as each theorem says. -/
import Derived.Test.YtbpbgiedemkciaaGreatDoorDf
import Derived.Test.YtbpbgiedemkciaaGreatDoorCh
import Derived.Test.YtbpbgiedemkciaaGreatDoorCg
namespace Go.AM
open Go.Proofs Cw
set_option maxRecDepth 10000
set_option maxHeartbeats 4000000
/-- the closure choose -/
abbrev chF (p3 p6 p2 p7 : Nat) : AV := .func (.func 111) [] [.ptr p3 0, .ptr p6 0, .ptr p2 0, .ptr p7 0]
/-- what a choice is asked of: a function value that answers p, and says so behind the choices 'done' -/
def Asks (n0 : Nat) (J : List (List Int) → AHeap → Prop) (p : List Int → Bool) (g : Nat) (caps : List AV) : Prop :=
  ∀ (done : List (List Int)) (xs : List Int) (h : AHeap) (n : Nat), xs.length = 5 → n0 ≤ n → J done h →
    ACalls Tryz.prog g (.agg (xs.map (iv .i64)) :: caps) h n fun r h' n' => r = bv (p xs) ∧ n ≤ n' ∧ (∀ x, n0 ≤ x → x < n → h' x = h x) ∧ J (done ++ [xs]) h'
structure ChAt (n0 n : Nat) (h : AHeap) (p3 p6 p2 p7 g : Nat) (caps : List AV) (ls : List (List Int)) (fs : List Int) : Prop where
  o3 : h p3 = some (.cells [.func (.func g) [] caps])
  o6 : h p6 = some (.cells (fs.map (iv .i64)))
  o2 : h p2 = some (.cells (ls.map encI))
  o7 : h p7 = some (.cells [chF p3 p6 p2 p7])
  l3 : n0 ≤ p3 ∧ p3 < n
  l6 : n0 ≤ p6 ∧ p6 < n
  l2 : n0 ≤ p2 ∧ p2 < n
  l7 : n0 ≤ p7 ∧ p7 < n
  d3 : p3 ≠ p6
  d2 : p2 ≠ p6
  d7 : p7 ≠ p6
  len : fs.length = 5
theorem choose_end (n0 n : Nat) (h : AHeap) (p3 p6 p2 p7 g : Nat) (caps : List AV) (ls : List (List Int)) (fs : List Int) (C : ChAt n0 n h p3 p6 p2 p7 g caps ls fs) (J : List (List Int) → AHeap → Prop) (_hJ : ∀ d h1 h2, (∀ x, x < n0 → h2 x = h1 x) → J d h1 → J d h2) (p : List Int → Bool) (A : Asks n0 J p g caps) (done : List (List Int)) (hd : J done h) :
    ACalls Tryz.prog 111 [iv .i64 5, .ptr p3 0, .ptr p6 0, .ptr p2 0, .ptr p7 0] h n fun r h' n' => r = bv (p fs) ∧ n ≤ n' ∧ (∀ x, n0 ≤ x → x < n → h' x = h x) ∧ J (done ++ [fs]) h' := by
  refine ACalls.entry (by kernel_rfl) fun hb _ => calls_of Tryz.func111 rfl (by kernel_rfl) (by simp [Tryz.ntmps111]) ?_
  have hA := fun n' hn' => A done fs h n' C.len hn' hd
  have o3 := C.o3
  have o6 := C.o6
  have hlf := C.len
  have htk5 : List.take 5 (List.map (iv .i64) fs) = List.map (iv .i64) fs := List.take_of_length_le (by simp; omega)
  replace C : Hide _ := C
  replace hA : Hide _ := hA
  repeat' (first | (refine ac_seq_h fun K hK => ?_) | (refine ac_region_h fun K hK => ?_; simp (disch := omega) [go_sem, *, Tryz.ntmps111]) | (apply Hide.out hK; clear hK K; try with_reducible dsimp only [thenA]) | (apply Hide.out ht; clear ht hf Kt Kf) | (refine ac_cond_h fun Kt Kf ht hf => ?_; simp (disch := omega) [go_sem, *]; try (refine ⟨fun hc => ?_, fun hc => ?_⟩ <;> try (exfalso; omega))))
  refine .inl ((hA.out _ (by have := C.out.l3; omega)).mono fun r h2 n2 hp => ?_)
  obtain ⟨rfl, hn2, hx2, hj2⟩ := hp
  replace hx2 : Hide _ := hx2
  replace hj2 : Hide _ := hj2
  repeat' (first | (apply Hide.out hK; clear hK K; try with_reducible dsimp only [thenA]) | (with_reducible show nextK _ _ _ _ _ _ _; simp (disch := omega) [go_sem, *]))
  refine ac_ret ?_
  try dsimp only [thenA, blockA]
  refine ⟨by simp, _, (by first | rfl | (simp (disch := omega) [go_sem, upd_ne] <;> rfl)), ?_⟩
  exact ret_id ⟨rfl, by omega, fun x h1 h2 => hx2.out x h1 (by omega), hj2.out⟩
/-- what choose leaves -/
def ChP (n0 : Nat) (p3 p6 p2 p7 g : Nat) (caps : List AV) (ls : List (List Int)) (J : List (List Int) → AHeap → Prop) (p : List Int → Bool) (k : Nat) (fs : List Int) (done : List (List Int)) (h : AHeap) (n : Nat) (r : AV) (h' : AHeap) (n' : Nat) : Prop :=
  n ≤ n' ∧ (∀ x, n0 ≤ x → x < n → x ≠ p6 → h' x = h x) ∧ ∃ fs', ChAt n0 n' h' p3 p6 p2 p7 g caps ls fs' ∧
    match (tup (ls.drop k)).find? (fun t => p (fs.take k ++ t)) with
    | some t => r = bv true ∧ fs' = fs.take k ++ t ∧ ∃ d', J d' h'
    | none => r = bv false ∧ fs'.take k = fs.take k ∧ J (done ++ (tup (ls.drop k)).map (fs.take k ++ ·)) h'
theorem splice_set : ∀ (fs : List Int) (k : Nat) (x : Int), k < fs.length → splice (fs.map (iv .i64)) k [iv .i64 x] = (fs.set k x).map (iv .i64)
  | [], k, x, h => by simp at h
  | y :: r, 0, x, h => by simp [splice]
  | y :: r, k + 1, x, h => by
    have := splice_set r k x (by simpa using h)
    simp only [splice, List.length_singleton] at this ⊢
    simp only [List.map_cons, List.take_succ_cons, List.set_cons_succ, List.cons_append]
    rw [← this, show k + 1 + 1 = (k + 1) + 1 from rfl, List.drop_succ_cons]
theorem ChAt.up {n0 n : Nat} {h : AHeap} {p3 p6 p2 p7 g : Nat} {caps : List AV} {ls : List (List Int)} {fs : List Int} (C : ChAt n0 n h p3 p6 p2 p7 g caps ls fs) {n2 : Nat} (h2 : n ≤ n2) {h' : AHeap} (hx : ∀ x, n0 ≤ x → x < n → x ≠ p6 → h' x = h x) {fs' : List Int} (hf : h' p6 = some (.cells (fs'.map (iv .i64)))) (hl : fs'.length = 5) : ChAt n0 n2 h' p3 p6 p2 p7 g caps ls fs' :=
  ⟨by rw [hx p3 C.l3.1 C.l3.2 C.d3]; exact C.o3, hf, by rw [hx p2 C.l2.1 C.l2.2 C.d2]; exact C.o2, by rw [hx p7 C.l7.1 C.l7.2 C.d7]; exact C.o7, ⟨C.l3.1, by have := C.l3.2; omega⟩, ⟨C.l6.1, by have := C.l6.2; omega⟩, ⟨C.l2.1, by have := C.l2.2; omega⟩, ⟨C.l7.1, by have := C.l7.2; omega⟩, C.d3, C.d2, C.d7, hl⟩
theorem find_none (q : List Int → Bool) (l : List Int) (r : List (List Int)) (h : ∀ x ∈ l, (tup r).find? (fun t => q (x :: t)) = none) : (tup (l :: r)).find? q = none := by
  rw [find_tup_cons, List.findSome?_eq_none_iff]; intro x hx; rw [h x hx]; rfl
theorem find_at (q : List Int → Bool) (l : List Int) (r : List (List Int)) (j : Nat) (x : Int) (t : List Int) (hx : l[j]? = some x) (h : ∀ y ∈ l.take j, (tup r).find? (fun t => q (y :: t)) = none) (ht : (tup r).find? (fun t => q (x :: t)) = some t) : (tup (l :: r)).find? q = some (x :: t) := by
  have hj : j < l.length := (List.getElem?_eq_some_iff.1 hx).1
  have e : l = l.take j ++ x :: l.drop (j + 1) := by
    have h1 : l.drop j = x :: l.drop (j + 1) := by rw [List.drop_eq_getElem_cons hj]; congr 1; rw [List.getElem?_eq_getElem hj] at hx; exact Option.some.inj hx
    rw [← h1, List.take_append_drop]
  rw [find_tup_cons, e, List.findSome?_append]
  have h0 : (l.take j).findSome? (fun x => ((tup r).find? fun t => q (x :: t)).map (x :: ·)) = none := by
    rw [List.findSome?_eq_none_iff]; intro y hy; rw [h y hy]; rfl
  rw [h0, Option.none_or, List.findSome?_cons, ht]; rfl
theorem choose_spec (n0 p3 p6 p2 p7 g : Nat) (caps : List AV) (ls : List (List Int)) (hls : ls.length = 5) (hlb : ∀ l ∈ ls, l.length ≤ 100000) (J : List (List Int) → AHeap → Prop) (hJ : ∀ d h1 h2, (∀ x, x < n0 → h2 x = h1 x) → J d h1 → J d h2) (p : List Int → Bool) (A : Asks n0 J p g caps) :
    ∀ (d k : Nat), k + d = 5 → ∀ (fs : List Int) (done : List (List Int)) (h : AHeap) (n : Nat), ChAt n0 n h p3 p6 p2 p7 g caps ls fs → J done h →
      ACalls Tryz.prog 111 [iv .i64 k, .ptr p3 0, .ptr p6 0, .ptr p2 0, .ptr p7 0] h n (ChP n0 p3 p6 p2 p7 g caps ls J p k fs done h n)
  | 0, k, hk, fs, done, h, n, C, hd => by
    have : k = 5 := by omega
    subst this
    have hlf := C.len
    refine (choose_end n0 n h p3 p6 p2 p7 g caps ls fs C J hJ p A done hd).mono fun r h' n' ⟨e1, e2, e3, e4⟩ => ⟨e2, fun x h1 h2 _ => e3 x h1 h2, fs, C.up e2 (fun x h1 h2 _ => e3 x h1 h2) (by rw [e3 p6 C.l6.1 C.l6.2]; exact C.o6) hlf, ?_⟩
    have h1 : ls.drop 5 = [] := List.drop_eq_nil_of_le (by omega)
    have h2 : fs.take 5 = fs := List.take_of_length_le (by omega)
    rw [h1, h2]
    simp only [tup, List.find?_cons, List.append_nil, List.find?_nil, List.map_cons, List.map_nil]
    cases hp : p fs with
    | true => exact ⟨by rw [e1, hp], by simp, _, e4⟩
    | false => exact ⟨by rw [e1, hp], by simp, by simpa using e4⟩
  | d + 1, k, hk, fs, done, h, n, C, hd => by
    have IH := choose_spec n0 p3 p6 p2 p7 g caps ls hls hlb J hJ p A d (k + 1) (by omega)
    refine ACalls.entry (by kernel_rfl) fun hb _ => calls_of Tryz.func111 rfl (by kernel_rfl) (by simp [Tryz.ntmps111]) ?_
    obtain ⟨l, hl⟩ : ∃ l, ls[k]? = some l := ⟨ls[k], List.getElem?_eq_getElem (by omega)⟩
    have hll := hlb l (List.mem_of_getElem? hl)
    have hdr : ls.drop k = l :: ls.drop (k + 1) := by rw [List.drop_eq_getElem_cons (by omega)]; congr 1; rw [List.getElem?_eq_getElem (by omega)] at hl; exact Option.some.inj hl
    have hdr2 : List.drop k (List.map encI ls) = encI l :: List.map encI (ls.drop (k + 1)) := by rw [← List.map_drop, hdr, List.map_cons]
    have o2 := C.o2
    replace C : Hide _ := C
    replace IH : Hide _ := IH
    replace hdr : Hide _ := hdr
    replace hl : Hide _ := hl
    have hk1 : k < 5 := by omega
    have hk5 : ((k : Int) == 5) = false := by simp; omega
    repeat' (first | (refine ac_seq_h fun K hK => ?_) | (refine ac_region_h fun K hK => ?_; simp (disch := omega) [go_sem, *, ilt_true, ile_true, Tryz.ntmps111]) | (apply Hide.out hK; clear hK K; try with_reducible dsimp only [thenA]) | (apply Hide.out hf; clear ht hf Kt Kf) | (refine ac_block ?_) | (refine ac_skip ?_; simp only [thenA]) | (refine ac_cond_h fun Kt Kf ht hf => ?_; simp (disch := omega) [go_sem, *]; try (refine ⟨fun hc => ?_, fun hc => ?_⟩ <;> try (exfalso; omega))))
    obtain ⟨rs, hrs⟩ : ∃ rs, Hide (rs = ls.drop (k + 1)) := ⟨_, rfl⟩
    refine ac_loop_wk (fun s' => ∃ (j n' : Nat) (fj : List Int) (H : AHeap), n ≤ n' ∧ j ≤ l.length ∧ ChAt n0 n' H p3 p6 p2 p7 g caps ls fj ∧ fj.take k = fs.take k ∧ (∀ x, n0 ≤ x → x < n → x ≠ p6 → H x = h x) ∧ J (done ++ (l.take j).flatMap fun x => (tup rs).map fun t => fs.take k ++ x :: t) H ∧ (∀ x ∈ l.take j, (tup rs).find? (fun t => p (fs.take k ++ x :: t)) = none) ∧
        s' = ⟨30, [(0, iv .i64 k), (1, .ptr p3 0), (2, .ptr p6 0), (3, .ptr p2 0), (4, .ptr p7 0), (16, encI l), (17, iv .i64 l.length), (18, iv .i64 j)], H, n'⟩)
      (fun s' => l.length - (intAt s' 18).toNat) ?_ ?_
    · exact loop_start (by simp [go_sem]) (Sub.refl _) ⟨0, _, fs, _, by omega, by omega, C.out.up (by omega) (fun _ _ _ _ => rfl) C.out.o6 C.out.len, rfl, fun _ _ _ _ => rfl, by simpa using hd, by simp, rfl⟩
    · rintro s' ⟨j, n', fj, H, hn', hj, Cj, hfj, hfr, hJj, hnone, rfl⟩
      have hlj := Cj.len
      by_cases hlt : j < l.length
      · obtain ⟨x, hx⟩ : ∃ x, l[j]? = some x := ⟨l[j], List.getElem?_eq_getElem hlt⟩
        have hx2 : l[j] = x := by rw [List.getElem?_eq_getElem hlt] at hx; exact Option.some.inj hx
        have hspl : List.take k (List.map (iv .i64) fj) ++ iv .i64 x :: List.drop (k + 1) (List.map (iv .i64) fj) = (List.map (iv .i64) fj).set k (iv .i64 x) := by rw [← List.map_set, ← splice_set fj k x (by omega)]; simp [splice]
        have o6 := Cj.o6
        have o7 := Cj.o7
        have d7 := Cj.d7
        have hpx : (fj.set k x).take (k + 1) = fs.take k ++ [x] := by
          rw [List.take_succ_eq_append_getElem (by rw [List.length_set]; omega), List.take_set_of_le (by omega), hfj]; simp
        have C2 : ∀ n2, n' ≤ n2 → ChAt n0 n2 (H.upd p6 (some (.cells ((fj.set k x).map (iv .i64))))) p3 p6 p2 p7 g caps ls (fj.set k x) := fun n2 h2 =>
          Cj.up h2 (fun y _ _ hy => upd_ne _ _ _ _ hy) (upd_same _ _ _) (by rw [List.length_set]; exact hlj)
        have J2 := hJ _ H (H.upd p6 (some (.cells ((fj.set k x).map (iv .i64))))) (fun y hy => upd_ne _ _ _ _ (by have := Cj.l6.1; omega)) hJj
        have ec : ((k + 1 : Nat) : Int) = (k : Int) + 1 := by omega
        have IH2 := fun n2 h2 => IH.out (fj.set k x) _ _ n2 (C2 n2 h2) J2
        rw [ec] at IH2
        simp only [List.map_set] at IH2
        replace IH2 : Hide _ := IH2
        replace Cj : Hide _ := Cj
        replace hfr : Hide _ := hfr
        replace hJj : Hide _ := hJj
        replace hnone : Hide _ := hnone
        replace hx : Hide _ := hx
        replace hpx : Hide _ := hpx
        clear C2 J2 ec
        repeat' (first | (refine ac_seq_h fun K hK => ?_) | (refine ac_region_h fun K hK => ?_; simp (disch := omega) [go_sem, *, wrap64_id, upd_ne, stepK_if, ilt_true, ile_true]) | (apply Hide.out hK; clear hK K; try with_reducible dsimp only [thenA]) | (apply Hide.out ht; clear ht hf Kt Kf) | (refine ac_block ?_) | (refine ac_skip ?_; simp only [thenA]) | (refine ac_cond_h fun Kt Kf ht hf => ?_; simp (disch := omega) [go_sem, *]; try (refine ⟨fun hc => ?_, fun hc => ?_⟩ <;> try (exfalso; omega))))
        refine .inl ((IH2.out _ (by omega)).mono fun r h2 n2 hp => ?_)
        obtain ⟨hn2, hx3, fs', C3, hm⟩ := hp
        rw [hpx.out, ← hrs.out] at hm
        have hfr3 : ∀ y, n0 ≤ y → y < n → y ≠ p6 → h2 y = h y := fun y h1 h2' h3 => by
          rw [hx3 y h1 (by omega) h3, upd_ne _ _ _ _ h3]; exact hfr.out y h1 h2' h3
        have eq1 : (fun t => p (List.take k fs ++ [x] ++ t)) = fun t => p (List.take k fs ++ x :: t) := by funext t; simp
        rw [eq1] at hm
        replace hfr3 : Hide _ := hfr3
        replace C3 : Hide _ := C3
        replace hx3 : Hide _ := hx3
        cases hfd : (tup rs).find? (fun t => p (List.take k fs ++ x :: t)) with
        | some t =>
          rw [hfd] at hm
          obtain ⟨rfl, hfs', d', hJ'⟩ := hm
          replace hfd : Hide _ := hfd
          replace hfs' : Hide _ := hfs'
          replace hJ' : Hide _ := hJ'
          repeat' (first | (refine ac_seq_h fun K hK => ?_) | (refine ac_region_h fun K hK => ?_; simp (disch := omega) [go_sem, *]) | (apply Hide.out hK; clear hK K; try with_reducible dsimp only [thenA]) | (apply Hide.out ht; clear ht hf Kt Kf) | (refine ac_cond_h fun Kt Kf ht hf => ?_; simp (disch := omega) [go_sem, *]; try (refine ⟨fun hc => ?_, fun hc => ?_⟩ <;> try (exfalso; omega))))
          refine ac_ret ?_
          try dsimp only [thenA, blockA]
          refine ⟨by simp, _, (by first | rfl | (simp (disch := omega) [go_sem, upd_ne] <;> rfl)), ?_⟩
          refine ret_id ⟨by omega, fun y h1 h2 h3 => hfr3.out y h1 h2 h3, fs', C3.out.up (by omega) (fun _ _ _ _ => rfl) C3.out.o6 C3.out.len, ?_⟩
          have hfk : (tup (ls.drop k)).find? (fun t => p (fs.take k ++ t)) = some (x :: t) := by
            rw [hdr.out, ← hrs.out]
            exact find_at (fun t => p (fs.take k ++ t)) l rs j x t hx.out hnone.out hfd.out
          rw [hfk]
          exact ⟨rfl, by rw [hfs'.out]; simp, d', hJ'.out⟩
        | none =>
          rw [hfd] at hm
          obtain ⟨rfl, hfs', hJ'⟩ := hm
          replace hfd : Hide _ := hfd
          replace hfs' : Hide _ := hfs'
          replace hJ' : Hide _ := hJ'
          repeat' (first | (refine ac_region_h fun K hK => ?_; simp (disch := omega) [go_sem, *, wrap64_id]) | (apply Hide.out hK; clear hK K; try with_reducible dsimp only [thenA]) | (apply Hide.out hf; clear ht hf Kt Kf) | (refine ac_skip ?_; simp only [thenA, blockA]) | (refine ac_cond_h fun Kt Kf ht hf => ?_; simp (disch := omega) [go_sem, *]; try (refine ⟨fun hc => ?_, fun hc => ?_⟩ <;> try (exfalso; omega))))
          refine round_end (by simp (disch := omega) [go_sem]) (Sub.refl _) ⟨j + 1, _, fs', _, ?_, by omega, C3.out.up (by omega) (fun _ _ _ _ => rfl) C3.out.o6 C3.out.len, ?_, hfr3.out, ?_, ?_, rfl⟩ (by simp [intAt, go_sem]; omega)
          · omega
          · have h1 := hfs'.out
            have h2 : (fs'.take (k + 1)).take k = fs'.take k := by rw [List.take_take]; congr 1; omega
            rw [← h2, h1, List.take_append_of_le_length (by rw [List.length_take]; have := C.out.len; omega), List.take_take]; congr 1; omega
          · have h1 := hJ'.out
            have e1 : l.take (j + 1) = l.take j ++ [x] := by rw [List.take_succ_eq_append_getElem hlt, hx2]
            rw [e1]
            simpa [List.flatMap_append, List.append_assoc] using h1
          · intro y hy
            rw [List.take_succ_eq_append_getElem hlt, hx2] at hy
            rcases List.mem_append.1 hy with h1 | h1
            · exact hnone.out y h1
            · rw [List.mem_singleton.1 h1]; exact hfd.out
      · have hjj : j = l.length := by omega
        subst hjj
        replace hfr : Hide _ := hfr
        replace Cj : Hide _ := Cj
        replace hJj : Hide _ := hJj
        replace hnone : Hide _ := hnone
        repeat' (first | (refine ac_seq_h fun K hK => ?_) | (refine ac_region_h fun K hK => ?_; simp (disch := omega) [go_sem, *]) | (apply Hide.out hK; clear hK K; try with_reducible dsimp only [thenA]) | (apply Hide.out hf; clear ht hf Kt Kf) | (clear hK K; apply Hide.out hK; clear hK K; try with_reducible dsimp only [thenA]) | (refine ac_exit ?_; simp only [thenA, blockA, if_true]) | (refine ac_cond_h fun Kt Kf ht hf => ?_; simp (disch := omega) [go_sem, *]; try (refine ⟨fun hc => ?_, fun hc => ?_⟩ <;> try (exfalso; omega))))
        refine ac_ret ?_
        try dsimp only [thenA, blockA]
        refine ⟨by simp, _, (by first | rfl | (simp (disch := omega) [go_sem, upd_ne] <;> rfl)), ?_⟩
        refine ret_id ⟨by omega, hfr.out, fj, Cj.out.up (by omega) (fun _ _ _ _ => rfl) Cj.out.o6 Cj.out.len, ?_⟩
        rw [List.take_length] at hJj hnone
        have hfk : (tup (ls.drop k)).find? (fun t => p (fs.take k ++ t)) = none := by
          rw [hdr.out, ← hrs.out]
          exact find_none (fun t => p (fs.take k ++ t)) l rs hnone.out
        rw [hfk]
        refine ⟨rfl, hfj, ?_⟩
        have := hJj.out
        rw [hdr.out, ← hrs.out]
        simpa [tup, List.map_flatMap, Function.comp_def] using this
end Go.AM

namespace Go.AM
open Go.Proofs Cw
set_option maxRecDepth 10000
set_option maxHeartbeats 4000000
theorem first_spec (a b c d e : List Int) (g : Nat) (caps : List AV) (la : a.length ≤ 100000) (lb : b.length ≤ 100000) (lc : c.length ≤ 100000) (ld : d.length ≤ 100000) (le : e.length ≤ 100000) (J : List (List Int) → AHeap → Prop) (p : List Int → Bool) (n : Nat) (h : AHeap)
    (hJ : ∀ d h1 h2, (∀ x, x < n → h2 x = h1 x) → J d h1 → J d h2) (A : Asks n J p g caps) (hd : J [] h) :
    ACalls Tryz.prog 61 [.agg [encI a, encI b, encI c, encI d, encI e], .func (.func g) [] caps] h n fun r h' n' => n ≤ n' ∧ match (tup [a, b, c, d, e]).find? p with
      | some t => r = .tup [.agg (t.map (iv .i64)), bv true] ∧ ∃ d', J d' h'
      | none => r = .tup [.agg [iv .i64 0, iv .i64 0, iv .i64 0, iv .i64 0, iv .i64 0], bv false] ∧ J (tup [a, b, c, d, e]) h' := by
  refine ACalls.entry (by kernel_rfl) fun hb _ => calls_of Tryz.func61 rfl (by kernel_rfl) (by simp [Tryz.ntmps61]) ?_
  replace A : Hide _ := A
  replace hd : Hide _ := hd
  replace hJ : Hide _ := hJ
  repeat' (first | (refine ac_seq_h fun K hK => ?_) | (refine ac_region_h fun K hK => ?_; simp (disch := omega) [go_sem, *, Tryz.ntmps61]) | (apply Hide.out hK; clear hK K; try with_reducible dsimp only [thenA]))
  have hlb : ∀ l ∈ [a, b, c, d, e], l.length ≤ 100000 := by
    intro l hl
    simp only [List.mem_cons, List.not_mem_nil, or_false] at hl
    rcases hl with rfl | rfl | rfl | rfl | rfl <;> omega
  refine .inl ((choose_spec n (n + 1) (n + 4) n (n + 5) g caps [a, b, c, d, e] rfl hlb J hJ.out p A.out 5 0 rfl [0, 0, 0, 0, 0] [] _ _
    ⟨by simp (disch := omega) only [upd_ne, upd_same], (by simp (disch := omega) only [upd_ne, upd_same]; rfl), (by simp (disch := omega) only [upd_ne, upd_same]; rfl), by simp (disch := omega) only [upd_same], by omega, by omega, by omega, by omega, by omega, by omega, by omega, rfl⟩
    (hJ.out [] h _ (fun x hx => by simp (disch := omega) only [upd_ne]) hd.out)).mono fun r h2 n2 hp => ?_)
  obtain ⟨hn2, hx2, fs', C3, hm⟩ := hp
  have o2 := hx2 (n + 2) (by omega) (by omega) (by omega)
  simp (disch := omega) only [upd_ne, upd_same] at o2
  have o6 := C3.o6
  have hl5 := C3.len
  simp only [List.take_zero, List.nil_append, List.drop_zero, List.map_id'] at hm
  replace C3 : Hide _ := C3
  replace hx2 : Hide _ := hx2
  replace hlb : Hide _ := hlb
  cases hf : (tup [a, b, c, d, e]).find? p with
  | some t =>
    rw [hf] at hm
    obtain ⟨rfl, rfl, d', hJ'⟩ := hm
    replace hf : Hide _ := hf
    replace hJ' : Hide _ := hJ'
    obtain ⟨t0, t1, t2, t3, t4, rfl⟩ : ∃ a b c d e, fs' = [a, b, c, d, e] := by
      match fs', hl5 with
      | [a, b, c, d, e], _ => exact ⟨a, b, c, d, e, rfl⟩
    simp only [List.map_cons, List.map_nil] at o6
    repeat' (first | (refine ac_seq_h fun K hK => ?_) | (refine ac_region_h fun K hK => ?_; simp (disch := omega) [go_sem, *]) | (apply Hide.out hK; clear hK K; try with_reducible dsimp only [thenA]) | (apply Hide.out ht; clear ht hf Kt Kf) | (refine ac_cond_h fun Kt Kf ht hf => ?_; simp (disch := omega) [go_sem, *]; try (refine ⟨fun hc => ?_, fun hc => ?_⟩ <;> try (exfalso; omega))))
    refine ac_ret ?_
    try dsimp only [thenA, blockA]
    refine ⟨by simp, _, (by first | rfl | (simp (disch := omega) [go_sem] <;> rfl)), ?_⟩
    refine ret_id ⟨by omega, ?_⟩
    rw [hf.out]
    exact ⟨rfl, d', hJ.out _ h2 _ (fun x hx => by simp (disch := omega) only [upd_ne]) hJ'.out⟩
  | none =>
    rw [hf] at hm
    obtain ⟨rfl, _, hJ'⟩ := hm
    replace hf : Hide _ := hf
    replace hJ' : Hide _ := hJ'
    repeat' (first | (refine ac_seq_h fun K hK => ?_) | (refine ac_region_h fun K hK => ?_; simp (disch := omega) [go_sem, *]) | (apply Hide.out hK; clear hK K; try with_reducible dsimp only [thenA]) | (apply Hide.out hf; clear ht hf Kt Kf) | (refine ac_skip ?_; simp only [thenA]) | (refine ac_cond_h fun Kt Kf ht hf => ?_; simp (disch := omega) [go_sem, *]; try (refine ⟨fun hc => ?_, fun hc => ?_⟩ <;> try (exfalso; omega))))
    refine ac_ret ?_
    try dsimp only [thenA, blockA]
    refine ⟨by simp, _, (by first | rfl | (simp (disch := omega) [go_sem] <;> rfl)), ?_⟩
    refine ret_id ⟨by omega, ?_⟩
    rw [hf.out]
    exact ⟨rfl, hJ.out _ h2 _ (fun x hx => by simp (disch := omega) only [upd_ne]) hJ'.out⟩
theorem ne52 (x y : Bool) : APure Tryz.prog 52 [bv x, bv y] (bv (x != y)) := by
  intro h n
  refine ACalls.pure (ACalls.entry (by kernel_rfl) fun hb _ => calls_of Tryz.func52 rfl (by kernel_rfl) (by simp [Tryz.ntmps52]) ?_)
  cases x <;> cases y
  · skip
    repeat' (first | (refine ac_seq_h fun K hK => ?_) | (refine ac_region_h fun K hK => ?_; simp (disch := omega) [go_sem, *, Tryz.ntmps52]) | (apply Hide.out hK; clear hK K; try with_reducible dsimp only [thenA]))
    (refine ac_ret ?_; try dsimp only [thenA, blockA]; refine ⟨by simp, _, (by first | rfl | (simp (disch := omega) [go_sem, upd_ne] <;> rfl)), ?_⟩; refine ret_id ⟨fun k hk => (by first | rfl | (repeat rw [upd_ne _ _ _ _ (by omega)])), (by simp [go_sem, below]), (by simp [go_sem] <;> omega), by simp, by simp⟩)
  · skip
    repeat' (first | (refine ac_seq_h fun K hK => ?_) | (refine ac_region_h fun K hK => ?_; simp (disch := omega) [go_sem, *, Tryz.ntmps52]) | (apply Hide.out hK; clear hK K; try with_reducible dsimp only [thenA]))
    (refine ac_ret ?_; try dsimp only [thenA, blockA]; refine ⟨by simp, _, (by first | rfl | (simp (disch := omega) [go_sem, upd_ne] <;> rfl)), ?_⟩; refine ret_id ⟨fun k hk => (by first | rfl | (repeat rw [upd_ne _ _ _ _ (by omega)])), (by simp [go_sem, below]), (by simp [go_sem] <;> omega), by simp, by simp⟩)
  · skip
    repeat' (first | (refine ac_seq_h fun K hK => ?_) | (refine ac_region_h fun K hK => ?_; simp (disch := omega) [go_sem, *, Tryz.ntmps52]) | (apply Hide.out hK; clear hK K; try with_reducible dsimp only [thenA]))
    (refine ac_ret ?_; try dsimp only [thenA, blockA]; refine ⟨by simp, _, (by first | rfl | (simp (disch := omega) [go_sem, upd_ne] <;> rfl)), ?_⟩; refine ret_id ⟨fun k hk => (by first | rfl | (repeat rw [upd_ne _ _ _ _ (by omega)])), (by simp [go_sem, below]), (by simp [go_sem] <;> omega), by simp, by simp⟩)
  · skip
    repeat' (first | (refine ac_seq_h fun K hK => ?_) | (refine ac_region_h fun K hK => ?_; simp (disch := omega) [go_sem, *, Tryz.ntmps52]) | (apply Hide.out hK; clear hK K; try with_reducible dsimp only [thenA]))
    (refine ac_ret ?_; try dsimp only [thenA, blockA]; refine ⟨by simp, _, (by first | rfl | (simp (disch := omega) [go_sem, upd_ne] <;> rfl)), ?_⟩; refine ret_id ⟨fun k hk => (by first | rfl | (repeat rw [upd_ne _ _ _ _ (by omega)])), (by simp [go_sem, below]), (by simp [go_sem] <;> omega), by simp, by simp⟩)
theorem an54 (x y : Bool) : APure Tryz.prog 54 [bv x, bv y] (bv (x && !y)) := by
  intro h n
  refine ACalls.pure (ACalls.entry (by kernel_rfl) fun hb _ => calls_of Tryz.func54 rfl (by kernel_rfl) (by simp [Tryz.ntmps54]) ?_)
  cases x <;> cases y
  · skip
    repeat' (first | (refine ac_seq_h fun K hK => ?_) | (refine ac_region_h fun K hK => ?_; simp (disch := omega) [go_sem, *, Tryz.ntmps54]) | (apply Hide.out hK; clear hK K; try with_reducible dsimp only [thenA]))
    (refine ac_ret ?_; try dsimp only [thenA, blockA]; refine ⟨by simp, _, (by first | rfl | (simp (disch := omega) [go_sem, upd_ne] <;> rfl)), ?_⟩; refine ret_id ⟨fun k hk => (by first | rfl | (repeat rw [upd_ne _ _ _ _ (by omega)])), (by simp [go_sem, below]), (by simp [go_sem] <;> omega), by simp, by simp⟩)
  · skip
    repeat' (first | (refine ac_seq_h fun K hK => ?_) | (refine ac_region_h fun K hK => ?_; simp (disch := omega) [go_sem, *, Tryz.ntmps54]) | (apply Hide.out hK; clear hK K; try with_reducible dsimp only [thenA]))
    (refine ac_ret ?_; try dsimp only [thenA, blockA]; refine ⟨by simp, _, (by first | rfl | (simp (disch := omega) [go_sem, upd_ne] <;> rfl)), ?_⟩; refine ret_id ⟨fun k hk => (by first | rfl | (repeat rw [upd_ne _ _ _ _ (by omega)])), (by simp [go_sem, below]), (by simp [go_sem] <;> omega), by simp, by simp⟩)
  · skip
    repeat' (first | (refine ac_seq_h fun K hK => ?_) | (refine ac_region_h fun K hK => ?_; simp (disch := omega) [go_sem, *, Tryz.ntmps54]) | (apply Hide.out hK; clear hK K; try with_reducible dsimp only [thenA]))
    (refine ac_ret ?_; try dsimp only [thenA, blockA]; refine ⟨by simp, _, (by first | rfl | (simp (disch := omega) [go_sem, upd_ne] <;> rfl)), ?_⟩; refine ret_id ⟨fun k hk => (by first | rfl | (repeat rw [upd_ne _ _ _ _ (by omega)])), (by simp [go_sem, below]), (by simp [go_sem] <;> omega), by simp, by simp⟩)
  · skip
    repeat' (first | (refine ac_seq_h fun K hK => ?_) | (refine ac_region_h fun K hK => ?_; simp (disch := omega) [go_sem, *, Tryz.ntmps54]) | (apply Hide.out hK; clear hK K; try with_reducible dsimp only [thenA]))
    (refine ac_ret ?_; try dsimp only [thenA, blockA]; refine ⟨by simp, _, (by first | rfl | (simp (disch := omega) [go_sem, upd_ne] <;> rfl)), ?_⟩; refine ret_id ⟨fun k hk => (by first | rfl | (repeat rw [upd_ne _ _ _ _ (by omega)])), (by simp [go_sem, below]), (by simp [go_sem] <;> omega), by simp, by simp⟩)
/-- differ's closure, in the frame of its maker -/
theorem clo104 (a b : Cnd) (hwa : wf a) (hwb : wf b) (hoa : ok a = true) (hob : ok b = true) (g : Nat) (q : Bool → Bool → Bool) (hg : ∀ x y, APure Tryz.prog g [bv x, bv y] (bv (q x y))) (n0 : Nat) (h0 : AHeap) (pa pb pi : Nat)
    (la : pa < n0) (lb : pb < n0) (li : pi < n0) (ha : h0 pa = some (.cells (cellsOf (encC a)))) (hb0 : h0 pb = some (.cells (cellsOf (encC b)))) (hi : h0 pi = some (.cells [.func (.func g) [] []])) :
    Asks n0 (fun _ h => ∀ x, x < n0 → h x = h0 x) (fun t => q (Cw.holds a (toFs t)) (Cw.holds b (toFs t))) 104 [.ptr pi 0, .ptr pa 0, .ptr pb 0] := by
  intro done xs h n hxs hn hd
  obtain ⟨x0, x1, x2, x3, x4, rfl⟩ : ∃ a b c d e, xs = [a, b, c, d, e] := by
    match xs, hxs with
    | [a, b, c, d, e], _ => exact ⟨a, b, c, d, e, rfl⟩
  have ka := holds_spec _ a (Nat.le_refl _) hwa hoa ⟨x0, x1, x2, x3, x4⟩
  have kb := holds_spec _ b (Nat.le_refl _) hwb hob ⟨x0, x1, x2, x3, x4⟩
  simp only [toFs]
  generalize Cw.holds a ⟨x0, x1, x2, x3, x4⟩ = x at *
  generalize Cw.holds b ⟨x0, x1, x2, x3, x4⟩ = y at *
  have kg := hg x y
  rw [← hd pa la] at ha
  rw [← hd pb lb] at hb0
  rw [← hd pi li] at hi
  have key : ACalls Tryz.prog 104 [.agg ([x0, x1, x2, x3, x4].map (iv .i64)), .ptr pi 0, .ptr pa 0, .ptr pb 0] h n fun r h' n' => r = bv (q x y) ∧ h' = h ∧ n' = n := by
    refine ACalls.pure (ACalls.entry (by kernel_rfl) fun hb _ => calls_of Tryz.func104 rfl (by kernel_rfl) (by simp [Tryz.ntmps104]) ?_)
    clear hg hd
    obtain ⟨ak, af, ao, an, anl, afu, asz, aks⟩ := a
    obtain ⟨bk, bf, bo, bn, bnl, bfu, bsz, bks⟩ := b
    simp only [encC, cellsOf, List.map_cons, List.map_nil] at *
    repeat' (first | (refine ac_seq_h fun K hK => ?_) | (refine ac_region_h fun K hK => ?_; simp (disch := omega) [go_sem, *, Tryz.ntmps104 ]) | (refine ac_quiet_h mixed (by kernel_rfl) fun K hK => ?_; simp (disch := omega) [go_sem, * ]) | (refine aQ_c (by simp [go_sem]) (by simp (disch := omega) [go_sem, *, upd_ne ]; first | exact rfl | exact ⟨rfl, rfl, rfl⟩ | exact (ka).gcall ⟨rfl, rfl, rfl⟩ | exact (kb).gcall ⟨rfl, rfl, rfl⟩ | exact (kg).gcall ⟨rfl, rfl, rfl⟩) ?_; try simp only [pS_some]) | (refine aQ_end ?_) | (apply Hide.out hK; clear hK K; try with_reducible dsimp only [thenA]))
    (refine ac_ret ?_; try dsimp only [thenA, blockA]; refine ⟨by simp, _, (by first | rfl | (simp (disch := omega) [go_sem, upd_ne] <;> rfl)), ?_⟩; refine ret_id ⟨fun k hk => (by first | rfl | (repeat rw [upd_ne _ _ _ _ (by omega)])), (by simp [go_sem, below]), (by simp [go_sem] <;> omega), by simp, by simp⟩)
  exact key.mono fun r h' n' ⟨e1, e2, e3⟩ => by
    subst e2; subst e3
    exact ⟨e1, Nat.le_refl _, fun _ _ _ => rfl, hd⟩
end Go.AM

namespace Go.AM
open Go.Proofs Cw
set_option maxRecDepth 10000
set_option maxHeartbeats 4000000
abbrev outDP (r : Fs × Bool × Int) : AV := .tup [encF r.1, bv r.2.1, iv .i64 r.2.2]
def pdiffers (a b : Cnd) (q : Bool → Bool → Bool) : Fs × Bool × Int :=
  if Cw.formed a && Cw.formed b then
    if fewP [a, b] then match (tup (candsP [a, b])).find? (fun t => q (Cw.holds a (toFs t)) (Cw.holds b (toFs t))) with
      | some t => (toFs t, false, 0)
      | none => (⟨0, 0, 0, 0, 0⟩, true, 0)
    else (⟨0, 0, 0, 0, 0⟩, false, 80)
  else (⟨0, 0, 0, 0, 0⟩, false, 7)
theorem length_find {p : List Int → Bool} {L : List (List Int)} {t : List Int} (h : (tup L).find? p = some t) : t.length = L.length := by
  have hm := List.mem_of_find?_eq_some h
  clear h
  induction L generalizing t with
  | nil => simp [tup] at hm; subst hm; rfl
  | cons l r ih =>
    simp only [tup, List.mem_flatMap, List.mem_map] at hm
    obtain ⟨x, _, u, hu, rfl⟩ := hm
    simp [ih hu]
theorem first_call (a b : Cnd) (hwa : wf a) (hwb : wf b) (hoa : ok a = true) (hob : ok b = true) (g : Nat) (q : Bool → Bool → Bool) (hg : ∀ x y, APure Tryz.prog g [bv x, bv y] (bv (q x y))) (A B C D E : List Int) (lA : A.length ≤ 100000) (lB : B.length ≤ 100000) (lC : C.length ≤ 100000) (lD : D.length ≤ 100000) (lE : E.length ≤ 100000)
    (H : AHeap) (nn pa pb pi : Nat) (la : pa < nn) (lb : pb < nn) (li : pi < nn) (ha : H pa = some (.cells (cellsOf (encC a)))) (hb : H pb = some (.cells (cellsOf (encC b)))) (hi : H pi = some (.cells [.func (.func g) [] []])) :
    ACalls Tryz.prog 61 [.agg [encI A, encI B, encI C, encI D, encI E], .func (.func 104) [] [.ptr pi 0, .ptr pa 0, .ptr pb 0]] H nn fun r h' n' => nn ≤ n' ∧ (∀ x, x < nn → h' x = H x) ∧ match (tup [A, B, C, D, E]).find? (fun t => q (Cw.holds a (toFs t)) (Cw.holds b (toFs t))) with
      | some t => r = .tup [.agg (t.map (iv .i64)), bv true]
      | none => r = .tup [.agg [iv .i64 0, iv .i64 0, iv .i64 0, iv .i64 0, iv .i64 0], bv false] := by
  refine (first_spec A B C D E 104 [.ptr pi 0, .ptr pa 0, .ptr pb 0] lA lB lC lD lE (fun _ h' => ∀ x, x < nn → h' x = H x) _ nn H (fun d h1 h2 hx hd x hx2 => (hx x hx2).trans (hd x hx2))
    (clo104 a b hwa hwb hoa hob g q hg nn H pa pb pi la lb li ha hb hi) (fun x _ => rfl)).mono fun r h' n' hp => ?_
  obtain ⟨h1, hm⟩ := hp
  revert hm
  cases (tup [A, B, C, D, E]).find? (fun t => q (Cw.holds a (toFs t)) (Cw.holds b (toFs t))) with
  | some t => rintro ⟨e, d', hd⟩; exact ⟨h1, hd, e⟩
  | none => rintro ⟨e, hd⟩; exact ⟨h1, hd, e⟩
theorem differ_spec (a b : Cnd) (hwa : wf a) (hwb : wf b) (hta : tot a ≤ 900) (htb : tot b ≤ 900) (g : Nat) (q : Bool → Bool → Bool) (hg : ∀ x y, APure Tryz.prog g [bv x, bv y] (bv (q x y))) :
    APure Tryz.prog 51 [encC a, encC b, .func (.func g) [] []] (outDP (pdiffers a b q)) := by
  intro h n
  have c1 := formed_spec a hwa hta
  have c2 := formed_spec b hwb htb
  refine ACalls.pure (ACalls.entry (by kernel_rfl) fun hb _ => calls_of Tryz.func51 rfl (by kernel_rfl) (by simp [Tryz.ntmps51]) ?_)
  obtain ⟨R, hR⟩ : ∃ R, R = outDP (pdiffers a b q) := ⟨_, rfl⟩
  rw [← hR]
  unfold pdiffers at hR
  by_cases hfa : Cw.formed a = true
  · rw [hfa] at c1 hR
    by_cases hfb : Cw.formed b = true
    · rw [hfb] at c2 hR
      simp only [Bool.and_true, if_true] at hR
      have ta : tot a ≤ 60 ∧ ok a = true := by simp only [Cw.formed, Bool.and_eq_true, decide_eq_true_eq] at hfa; exact ⟨hfa.1.2, hfa.1.1⟩
      have tb : tot b ≤ 60 ∧ ok b = true := by simp only [Cw.formed, Bool.and_eq_true, decide_eq_true_eq] at hfb; exact ⟨hfb.1.2, hfb.1.1⟩
      have c3 := choices_spec [a, b] false false 5 (.inr ⟨rfl, rfl⟩) ⟨hwa, hwb, trivial⟩ (by simp [okL, ta.2, tb.2]) (by simp only [totL]; omega)
      have c4 := first_call a b hwa hwb ta.2 tb.2 g q hg
      have tt : totL [a, b] ≤ 120 := by simp only [totL]; omega
      unfold ChPost at c3
      by_cases hfw : fewP [a, b] = true
      · rw [hfw] at c3 hR
        simp only [if_true] at c3 hR
        obtain ⟨A, hA⟩ : ∃ A, Hide (A = numsP 0 [a, b]) := ⟨_, rfl⟩
        obtain ⟨B, hB⟩ : ∃ A, Hide (A = numsP 1 [a, b]) := ⟨_, rfl⟩
        obtain ⟨C, hC⟩ : ∃ A, Hide (A = numsP 2 [a, b]) := ⟨_, rfl⟩
        obtain ⟨D, hD⟩ : ∃ A, Hide (A = numsP 3 [a, b]) := ⟨_, rfl⟩
        obtain ⟨E, hE⟩ : ∃ A, Hide (A = numsP 4 [a, b]) := ⟨_, rfl⟩
        have lA : A.length ≤ 1000 := by have := length_numsP 0 [a, b]; rw [hA.out]; omega
        have lB : B.length ≤ 1000 := by have := length_numsP 1 [a, b]; rw [hB.out]; omega
        have lC : C.length ≤ 1000 := by have := length_numsP 2 [a, b]; rw [hC.out]; omega
        have lD : D.length ≤ 1000 := by have := length_numsP 3 [a, b]; rw [hD.out]; omega
        have lE : E.length ≤ 1000 := by have := length_numsP 4 [a, b]; rw [hE.out]; omega
        rw [← hA.out, ← hB.out, ← hC.out, ← hD.out, ← hE.out] at c3
        have hcr : candsP [a, b] = [A, B, C, D, E] := by rw [candsP, ← hA.out, ← hB.out, ← hC.out, ← hD.out, ← hE.out]
        rw [hcr] at hR
        obtain ⟨p, hp⟩ : ∃ p : List Int → Bool, Hide (p = fun t => q (Cw.holds a (toFs t)) (Cw.holds b (toFs t))) := ⟨_, rfl⟩
        rw [← hp.out] at hR c4
        replace c3 : APure Tryz.prog 59 [.fslc false false 5 (encL [a, b])] (.tup [.agg [encI A, encI B, encI C, encI D, encI E], iv .i64 0]) := c3
        replace hR : Hide _ := hR
        replace c4 : Hide _ := c4
        replace hg : Hide _ := hg
        replace hA : Hide _ := trivial
        replace hB : Hide _ := trivial
        replace hC : Hide _ := trivial
        replace hD : Hide _ := trivial
        replace hE : Hide _ := trivial
        replace hp : Hide _ := trivial
        clear hfa hfb hfw ta tb tt hwa hwb hta htb hcr
        obtain ⟨ak, af, ao, an, anl, afu, asz, aks⟩ := a
        obtain ⟨bk, bf, bo, bn, bnl, bfu, bsz, bks⟩ := b
        simp only [encC, encL, cellsOf] at c1 c2 c3 c4 ⊢
        repeat' (first | (refine ac_seq_h fun K hK => ?_) | (refine ac_region_h fun K hK => ?_; simp (disch := omega) [go_sem, *, upd_ne, Tryz.ntmps51 ]) | (apply Hide.out hK; clear hK K; try with_reducible dsimp only [thenA]) | (apply Hide.out hf; clear ht hf Kt Kf) | (with_reducible refine APure.gcall (c1) ?_; try simp (disch := omega) [go_sem, *, upd_ne ]) | (with_reducible refine APure.gcall (c2) ?_; try simp (disch := omega) [go_sem, * ]) | (with_reducible refine APure.gcall (c3) ?_; try simp (disch := omega) [go_sem, * ]) | (refine ac_skip ?_; simp only [thenA]) | (refine ac_cond_h fun Kt Kf ht hf => ?_; simp (disch := omega) [go_sem, * ]; try (refine ⟨fun hc => ?_, fun hc => ?_⟩ <;> try (exfalso; omega))))
        refine .inl ((c4.out A B C D E (by omega) (by omega) (by omega) (by omega) (by omega) _ _ _ _ _ (by omega) (by omega) (by omega) (by simp (disch := omega) only [upd_ne, upd_same]) (by simp (disch := omega) only [upd_ne, upd_same]) (by simp (disch := omega) only [upd_ne, upd_same])).mono fun r h2 n2 hp => ?_)
        obtain ⟨hn2, hJ', hm⟩ := hp
        cases hf : (tup [A, B, C, D, E]).find? p with
        | some t =>
          rw [hf] at hm
          subst hm
          have hR2 : R = outDP (toFs t, false, 0) := by rw [hR.out, hf]
          have hl := length_find hf
          obtain ⟨t0, t1, t2, t3, t4, rfl⟩ : ∃ a b c d e, t = [a, b, c, d, e] := by
            match t, hl with
            | [a, b, c, d, e], _ => exact ⟨a, b, c, d, e, rfl⟩
          have o3 := hJ' (n + 3) (by omega)
          simp (disch := omega) only [upd_ne, upd_same] at o3
          subst hR2
          replace hJ' : Hide _ := hJ'
          replace hf : Hide _ := hf
          clear hR hl
          repeat' (first | (refine ac_seq_h fun K hK => ?_) | (refine ac_region_h fun K hK => ?_; simp (disch := omega) [go_sem, *, upd_ne]) | (apply Hide.out hK; clear hK K; try with_reducible dsimp only [thenA]) | (with_reducible show nextK _ _ _ _ _ _ _; simp (disch := omega) [go_sem, *]))
          refine ac_ret ?_
          try dsimp only [thenA, blockA]
          refine ⟨by simp, _, (by first | rfl | (simp (disch := omega) [go_sem] <;> rfl)), ?_⟩
          refine ret_id ⟨fun k hk => ?_, ?_, rfl, by simp, by simp⟩
          · simp (disch := omega) only [upd_ne]
            rw [hJ'.out k (by omega)]
            simp (disch := omega) only [upd_ne]
          · first | trivial | (simp [below, belowL]; done) | (unfold resVal; simp [below, belowL])
        | none =>
          rw [hf] at hm
          subst hm
          have hR2 : R = outDP (⟨0, 0, 0, 0, 0⟩, true, 0) := by rw [hR.out, hf]
          have o3 := hJ' (n + 3) (by omega)
          simp (disch := omega) only [upd_ne, upd_same] at o3
          subst hR2
          replace hJ' : Hide _ := hJ'
          replace hf : Hide _ := hf
          clear hR
          repeat' (first | (refine ac_seq_h fun K hK => ?_) | (refine ac_region_h fun K hK => ?_; simp (disch := omega) [go_sem, *, upd_ne]) | (apply Hide.out hK; clear hK K; try with_reducible dsimp only [thenA]) | (with_reducible show nextK _ _ _ _ _ _ _; simp (disch := omega) [go_sem, *]))
          refine ac_ret ?_
          try dsimp only [thenA, blockA]
          refine ⟨by simp, _, (by first | rfl | (simp (disch := omega) [go_sem] <;> rfl)), ?_⟩
          refine ret_id ⟨fun k hk => ?_, ?_, rfl, by simp, by simp⟩
          · simp (disch := omega) only [upd_ne]
            rw [hJ'.out k (by omega)]
            simp (disch := omega) only [upd_ne]
          · first | trivial | (simp [below, belowL]; done) | (unfold resVal; simp [below, belowL])
      · have hfw2 : fewP [a, b] = false := by simpa using hfw
        rw [hfw2] at c3 hR
        simp only [Bool.false_eq_true, if_false] at c3 hR
        subst hR
        replace c3 : Hide _ := c3
        clear c4 hfa hfb ta tb hfw hfw2 hwa hwb hg hta htb tt
        obtain ⟨ak, af, ao, an, anl, afu, asz, aks⟩ := a
        obtain ⟨bk, bf, bo, bn, bnl, bfu, bsz, bks⟩ := b
        simp only [encC, encL] at c1 c2 c3 ⊢
        repeat' (first | (refine ac_seq_h fun K hK => ?_) | (refine ac_region_h fun K hK => ?_; simp (disch := omega) [go_sem, *, upd_ne, Tryz.ntmps51 ]) | (apply Hide.out hK; clear hK K; try with_reducible dsimp only [thenA]) | (apply Hide.out hf; clear ht hf Kt Kf) | (with_reducible refine APure.gcall (c1) ?_; try simp (disch := omega) [go_sem, *, upd_ne ]) | (with_reducible refine APure.gcall (c2) ?_; try simp (disch := omega) [go_sem, * ]) | (refine ac_skip ?_; simp only [thenA]) | (refine ac_cond_h fun Kt Kf ht hf => ?_; simp (disch := omega) [go_sem, * ]; try (refine ⟨fun hc => ?_, fun hc => ?_⟩ <;> try (exfalso; omega))))
        refine .inl ((c3.out _ _).mono fun r h2 n2 hp => ?_)
        obtain ⟨⟨V, rfl⟩, rfl, rfl⟩ := hp
        have s0 : (rowF (V 0)).scalar = true := by unfold rowF; split <;> rfl
        have s1 : (rowF (V 1)).scalar = true := by unfold rowF; split <;> rfl
        have s2 : (rowF (V 2)).scalar = true := by unfold rowF; split <;> rfl
        have s3 : (rowF (V 3)).scalar = true := by unfold rowF; split <;> rfl
        have s4 : (rowF (V 4)).scalar = true := by unfold rowF; split <;> rfl
        generalize rowF (V 0) = v0 at *
        generalize rowF (V 1) = v1 at *
        generalize rowF (V 2) = v2 at *
        generalize rowF (V 3) = v3 at *
        generalize rowF (V 4) = v4 at *
        simp only [AV.scalar] at s0 s1 s2 s3 s4
        repeat' (first | (refine ac_seq_h fun K hK => ?_) | (refine ac_region_h fun K hK => ?_; simp (disch := omega) [go_sem, *, upd_ne]) | (apply Hide.out hK; clear hK K; try with_reducible dsimp only [thenA]) | (apply Hide.out ht; clear ht hf Kt Kf) | (with_reducible show nextK _ _ _ _ _ _ _; simp (disch := omega) [go_sem, *]) | (refine ac_cond_h fun Kt Kf ht hf => ?_; simp (disch := omega) [go_sem, *]; try (refine ⟨fun hc => ?_, fun hc => ?_⟩ <;> try (exfalso; omega))))
        (refine ac_ret ?_; try dsimp only [thenA, blockA]; refine ⟨by simp, _, (by first | rfl | (simp (disch := omega) [go_sem] <;> rfl)), ?_⟩; refine ret_id ⟨fun k hk => (by first | rfl | (repeat rw [upd_ne _ _ _ _ (by omega)])), (by simp [go_sem, below, belowL]), (by simp [go_sem] <;> omega), by simp, by simp⟩)
    · have hfb2 : Cw.formed b = false := by simpa using hfb
      rw [hfb2] at c2 hR
      simp only [Bool.and_false, Bool.false_eq_true, if_false] at hR
      subst hR
      clear hfa hfb hfb2 hwa hwb hg hta htb
      obtain ⟨ak, af, ao, an, anl, afu, asz, aks⟩ := a
      obtain ⟨bk, bf, bo, bn, bnl, bfu, bsz, bks⟩ := b
      simp only [encC] at c1 c2 ⊢
      repeat' (first | (refine ac_seq_h fun K hK => ?_) | (refine ac_region_h fun K hK => ?_; simp (disch := omega) [go_sem, *, upd_ne, Tryz.ntmps51 ]) | (apply Hide.out hK; clear hK K; try with_reducible dsimp only [thenA]) | (apply Hide.out ht; clear ht hf Kt Kf) | (with_reducible refine APure.gcall (c1) ?_; try simp (disch := omega) [go_sem, *, upd_ne ]) | (with_reducible refine APure.gcall (c2) ?_; try simp (disch := omega) [go_sem, * ]) | (refine ac_cond_h fun Kt Kf ht hf => ?_; simp (disch := omega) [go_sem, * ]; try (refine ⟨fun hc => ?_, fun hc => ?_⟩ <;> try (exfalso; omega))))
      (refine ac_ret ?_; try dsimp only [thenA, blockA]; refine ⟨by simp, _, (by first | rfl | (simp (disch := omega) [go_sem] <;> rfl)), ?_⟩; refine ret_id ⟨fun k hk => (by first | rfl | (repeat rw [upd_ne _ _ _ _ (by omega)])), (by simp [go_sem, below, belowL]), (by simp [go_sem] <;> omega), by simp, by simp⟩)
  · have hfa2 : Cw.formed a = false := by simpa using hfa
    rw [hfa2] at c1 hR
    simp only [Bool.false_and, Bool.false_eq_true, if_false] at hR
    subst hR
    clear hfa hfa2 hwa hwb hg hta htb
    generalize Cw.formed b = fb at *
    obtain ⟨ak, af, ao, an, anl, afu, asz, aks⟩ := a
    obtain ⟨bk, bf, bo, bn, bnl, bfu, bsz, bks⟩ := b
    simp only [encC] at c1 c2 ⊢
    repeat' (first | (refine ac_seq_h fun K hK => ?_) | (refine ac_region_h fun K hK => ?_; simp (disch := omega) [go_sem, *, upd_ne, Tryz.ntmps51 ]) | (apply Hide.out hK; clear hK K; try with_reducible dsimp only [thenA]) | (apply Hide.out ht; clear ht hf Kt Kf) | (with_reducible refine APure.gcall (c1) ?_; try simp (disch := omega) [go_sem, * ]) | (refine ac_cond_h fun Kt Kf ht hf => ?_; simp (disch := omega) [go_sem, * ]; try (refine ⟨fun hc => ?_, fun hc => ?_⟩ <;> try (exfalso; omega))))
    (refine ac_ret ?_; try dsimp only [thenA, blockA]; refine ⟨by simp, _, (by first | rfl | (simp (disch := omega) [go_sem] <;> rfl)), ?_⟩; refine ret_id ⟨fun k hk => (by first | rfl | (repeat rw [upd_ne _ _ _ _ (by omega)])), (by simp [go_sem, below, belowL]), (by simp [go_sem] <;> omega), by simp, by simp⟩)
end Go.AM
