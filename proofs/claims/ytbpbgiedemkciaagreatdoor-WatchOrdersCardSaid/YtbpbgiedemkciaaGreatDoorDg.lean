/- The program's first difference. Conditions: as each theorem says. -/
import Derived.Test.YtbpbgiedemkciaaGreatDoorDf
import Derived.Test.YtbpbgiedemkciaaGreatDoorCh
import Derived.Test.YtbpbgiedemkciaaGreatDoorCg
namespace Go.AM
open Go.Proofs Cw
set_option maxRecDepth 10000
set_option maxHeartbeats 4000000
/-- the closure choose -/
abbrev chF (p3 p6 p2 p7 : Nat) : AV := .func (.func 111) [] [.ptr p3 0, .ptr p6 0, .ptr p2 0, .ptr p7 0]
/-- what a choice is asked of: a function value that answers p, and says so behind the choices 'done' -/
def Asks (n0 : Nat) (J : List (List Int) → AHeap → Prop) (p : List Int → Bool) (g : Nat) (caps : List AV) : Prop :=
  ∀ (done : List (List Int)) (xs : List Int) (h : AHeap) (n : Nat), xs.length = 5 → n0 ≤ n → J done h →
    ACalls Tryz.prog g (.agg (xs.map (iv .i64)) :: caps) h n fun r h' n' => r = bv (p xs) ∧ n ≤ n' ∧ (∀ x, n0 ≤ x → x < n → h' x = h x) ∧ J (done ++ [xs]) h'
structure ChAt (n0 n : Nat) (h : AHeap) (p3 p6 p2 p7 g : Nat) (caps : List AV) (ls : List (List Int)) (fs : List Int) : Prop where
  o3 : h p3 = some (.cells [.func (.func g) [] caps])
  o6 : h p6 = some (.cells (fs.map (iv .i64)))
  o2 : h p2 = some (.cells (ls.map encI))
  o7 : h p7 = some (.cells [chF p3 p6 p2 p7])
  l3 : n0 ≤ p3 ∧ p3 < n
  l6 : n0 ≤ p6 ∧ p6 < n
  l2 : n0 ≤ p2 ∧ p2 < n
  l7 : n0 ≤ p7 ∧ p7 < n
  d3 : p3 ≠ p6
  d2 : p2 ≠ p6
  d7 : p7 ≠ p6
  len : fs.length = 5
theorem choose_end (n0 n : Nat) (h : AHeap) (p3 p6 p2 p7 g : Nat) (caps : List AV) (ls : List (List Int)) (fs : List Int) (C : ChAt n0 n h p3 p6 p2 p7 g caps ls fs) (J : List (List Int) → AHeap → Prop) (_hJ : ∀ d h1 h2, (∀ x, x < n0 → h2 x = h1 x) → J d h1 → J d h2) (p : List Int → Bool) (A : Asks n0 J p g caps) (done : List (List Int)) (hd : J done h) :
    ACalls Tryz.prog 111 [iv .i64 5, .ptr p3 0, .ptr p6 0, .ptr p2 0, .ptr p7 0] h n fun r h' n' => r = bv (p fs) ∧ n ≤ n' ∧ (∀ x, n0 ≤ x → x < n → h' x = h x) ∧ J (done ++ [fs]) h' := by
  refine ACalls.entry (by kernel_rfl) fun hb _ => calls_of Tryz.func111 rfl (by kernel_rfl) (by simp [Tryz.ntmps111]) ?_
  have hA := fun n' hn' => A done fs h n' C.len hn' hd
  have o3 := C.o3
  have o6 := C.o6
  have hlf := C.len
  have htk5 : List.take 5 (List.map (iv .i64) fs) = List.map (iv .i64) fs := List.take_of_length_le (by simp; omega)
  replace C : Hide _ := C
  replace hA : Hide _ := hA
  repeat' (first | (refine ac_seq_h fun K hK => ?_) | (refine ac_region_h fun K hK => ?_; simp (disch := omega) [go_sem, *, Tryz.ntmps111]) | (apply Hide.out hK; clear hK K; try with_reducible dsimp only [thenA]) | (apply Hide.out ht; clear ht hf Kt Kf) | (refine ac_cond_h fun Kt Kf ht hf => ?_; simp (disch := omega) [go_sem, *]; try (refine ⟨fun hc => ?_, fun hc => ?_⟩ <;> try (exfalso; omega))))
  refine .inl ((hA.out _ (by have := C.out.l3; omega)).mono fun r h2 n2 hp => ?_)
  obtain ⟨rfl, hn2, hx2, hj2⟩ := hp
  replace hx2 : Hide _ := hx2
  replace hj2 : Hide _ := hj2
  repeat' (first | (apply Hide.out hK; clear hK K; try with_reducible dsimp only [thenA]) | (with_reducible show nextK _ _ _ _ _ _ _; simp (disch := omega) [go_sem, *]))
  refine ac_ret ?_
  try dsimp only [thenA, blockA]
  refine ⟨by simp, _, (by first | rfl | (simp (disch := omega) [go_sem, upd_ne] <;> rfl)), ?_⟩
  exact ret_id ⟨rfl, by omega, fun x h1 h2 => hx2.out x h1 (by omega), hj2.out⟩
/-- what choose leaves -/
def ChP (n0 : Nat) (p3 p6 p2 p7 g : Nat) (caps : List AV) (ls : List (List Int)) (J : List (List Int) → AHeap → Prop) (p : List Int → Bool) (k : Nat) (fs : List Int) (done : List (List Int)) (h : AHeap) (n : Nat) (r : AV) (h' : AHeap) (n' : Nat) : Prop :=
  n ≤ n' ∧ (∀ x, n0 ≤ x → x < n → x ≠ p6 → h' x = h x) ∧ ∃ fs', ChAt n0 n' h' p3 p6 p2 p7 g caps ls fs' ∧
    match (tup (ls.drop k)).find? (fun t => p (fs.take k ++ t)) with
    | some t => r = bv true ∧ fs' = fs.take k ++ t ∧ ∃ d', J d' h'
    | none => r = bv false ∧ fs'.take k = fs.take k ∧ J (done ++ (tup (ls.drop k)).map (fs.take k ++ ·)) h'
theorem splice_set : ∀ (fs : List Int) (k : Nat) (x : Int), k < fs.length → splice (fs.map (iv .i64)) k [iv .i64 x] = (fs.set k x).map (iv .i64)
  | [], k, x, h => by simp at h
  | y :: r, 0, x, h => by simp [splice]
  | y :: r, k + 1, x, h => by
    have := splice_set r k x (by simpa using h)
    simp only [splice, List.length_singleton] at this ⊢
    simp only [List.map_cons, List.take_succ_cons, List.set_cons_succ, List.cons_append]
    rw [← this, show k + 1 + 1 = (k + 1) + 1 from rfl, List.drop_succ_cons]
theorem ChAt.up {n0 n : Nat} {h : AHeap} {p3 p6 p2 p7 g : Nat} {caps : List AV} {ls : List (List Int)} {fs : List Int} (C : ChAt n0 n h p3 p6 p2 p7 g caps ls fs) {n2 : Nat} (h2 : n ≤ n2) {h' : AHeap} (hx : ∀ x, n0 ≤ x → x < n → x ≠ p6 → h' x = h x) {fs' : List Int} (hf : h' p6 = some (.cells (fs'.map (iv .i64)))) (hl : fs'.length = 5) : ChAt n0 n2 h' p3 p6 p2 p7 g caps ls fs' :=
  ⟨by rw [hx p3 C.l3.1 C.l3.2 C.d3]; exact C.o3, hf, by rw [hx p2 C.l2.1 C.l2.2 C.d2]; exact C.o2, by rw [hx p7 C.l7.1 C.l7.2 C.d7]; exact C.o7, ⟨C.l3.1, by have := C.l3.2; omega⟩, ⟨C.l6.1, by have := C.l6.2; omega⟩, ⟨C.l2.1, by have := C.l2.2; omega⟩, ⟨C.l7.1, by have := C.l7.2; omega⟩, C.d3, C.d2, C.d7, hl⟩
theorem find_none (q : List Int → Bool) (l : List Int) (r : List (List Int)) (h : ∀ x ∈ l, (tup r).find? (fun t => q (x :: t)) = none) : (tup (l :: r)).find? q = none := by
  rw [find_tup_cons, List.findSome?_eq_none_iff]; intro x hx; rw [h x hx]; rfl
theorem find_at (q : List Int → Bool) (l : List Int) (r : List (List Int)) (j : Nat) (x : Int) (t : List Int) (hx : l[j]? = some x) (h : ∀ y ∈ l.take j, (tup r).find? (fun t => q (y :: t)) = none) (ht : (tup r).find? (fun t => q (x :: t)) = some t) : (tup (l :: r)).find? q = some (x :: t) := by
  have hj : j < l.length := (List.getElem?_eq_some_iff.1 hx).1
  have e : l = l.take j ++ x :: l.drop (j + 1) := by
    have h1 : l.drop j = x :: l.drop (j + 1) := by rw [List.drop_eq_getElem_cons hj]; congr 1; rw [List.getElem?_eq_getElem hj] at hx; exact Option.some.inj hx
    rw [← h1, List.take_append_drop]
  rw [find_tup_cons, e, List.findSome?_append]
  have h0 : (l.take j).findSome? (fun x => ((tup r).find? fun t => q (x :: t)).map (x :: ·)) = none := by
    rw [List.findSome?_eq_none_iff]; intro y hy; rw [h y hy]; rfl
  rw [h0, Option.none_or, List.findSome?_cons, ht]; rfl
theorem choose_spec (n0 p3 p6 p2 p7 g : Nat) (caps : List AV) (ls : List (List Int)) (hls : ls.length = 5) (hlb : ∀ l ∈ ls, l.length ≤ 100000) (J : List (List Int) → AHeap → Prop) (hJ : ∀ d h1 h2, (∀ x, x < n0 → h2 x = h1 x) → J d h1 → J d h2) (p : List Int → Bool) (A : Asks n0 J p g caps) :
    ∀ (d k : Nat), k + d = 5 → ∀ (fs : List Int) (done : List (List Int)) (h : AHeap) (n : Nat), ChAt n0 n h p3 p6 p2 p7 g caps ls fs → J done h →
      ACalls Tryz.prog 111 [iv .i64 k, .ptr p3 0, .ptr p6 0, .ptr p2 0, .ptr p7 0] h n (ChP n0 p3 p6 p2 p7 g caps ls J p k fs done h n)
  | 0, k, hk, fs, done, h, n, C, hd => by
    have : k = 5 := by omega
    subst this
    have hlf := C.len
    refine (choose_end n0 n h p3 p6 p2 p7 g caps ls fs C J hJ p A done hd).mono fun r h' n' ⟨e1, e2, e3, e4⟩ => ⟨e2, fun x h1 h2 _ => e3 x h1 h2, fs, C.up e2 (fun x h1 h2 _ => e3 x h1 h2) (by rw [e3 p6 C.l6.1 C.l6.2]; exact C.o6) hlf, ?_⟩
    have h1 : ls.drop 5 = [] := List.drop_eq_nil_of_le (by omega)
    have h2 : fs.take 5 = fs := List.take_of_length_le (by omega)
    rw [h1, h2]
    simp only [tup, List.find?_cons, List.append_nil, List.find?_nil, List.map_cons, List.map_nil]
    cases hp : p fs with
    | true => exact ⟨by rw [e1, hp], by simp, _, e4⟩
    | false => exact ⟨by rw [e1, hp], by simp, by simpa using e4⟩
  | d + 1, k, hk, fs, done, h, n, C, hd => by
    have IH := choose_spec n0 p3 p6 p2 p7 g caps ls hls hlb J hJ p A d (k + 1) (by omega)
    refine ACalls.entry (by kernel_rfl) fun hb _ => calls_of Tryz.func111 rfl (by kernel_rfl) (by simp [Tryz.ntmps111]) ?_
    obtain ⟨l, hl⟩ : ∃ l, ls[k]? = some l := ⟨ls[k], List.getElem?_eq_getElem (by omega)⟩
    have hll := hlb l (List.mem_of_getElem? hl)
    have hdr : ls.drop k = l :: ls.drop (k + 1) := by rw [List.drop_eq_getElem_cons (by omega)]; congr 1; rw [List.getElem?_eq_getElem (by omega)] at hl; exact Option.some.inj hl
    have hdr2 : List.drop k (List.map encI ls) = encI l :: List.map encI (ls.drop (k + 1)) := by rw [← List.map_drop, hdr, List.map_cons]
    have o2 := C.o2
    replace C : Hide _ := C
    replace IH : Hide _ := IH
    replace hdr : Hide _ := hdr
    replace hl : Hide _ := hl
    have hk1 : k < 5 := by omega
    have hk5 : ((k : Int) == 5) = false := by simp; omega
    repeat' (first | (refine ac_seq_h fun K hK => ?_) | (refine ac_region_h fun K hK => ?_; simp (disch := omega) [go_sem, *, ilt_true, ile_true, Tryz.ntmps111]) | (apply Hide.out hK; clear hK K; try with_reducible dsimp only [thenA]) | (apply Hide.out hf; clear ht hf Kt Kf) | (refine ac_block ?_) | (refine ac_skip ?_; simp only [thenA]) | (refine ac_cond_h fun Kt Kf ht hf => ?_; simp (disch := omega) [go_sem, *]; try (refine ⟨fun hc => ?_, fun hc => ?_⟩ <;> try (exfalso; omega))))
    obtain ⟨rs, hrs⟩ : ∃ rs, Hide (rs = ls.drop (k + 1)) := ⟨_, rfl⟩
    refine ac_loop_wk (fun s' => ∃ (j n' : Nat) (fj : List Int) (H : AHeap), n ≤ n' ∧ j ≤ l.length ∧ ChAt n0 n' H p3 p6 p2 p7 g caps ls fj ∧ fj.take k = fs.take k ∧ (∀ x, n0 ≤ x → x < n → x ≠ p6 → H x = h x) ∧ J (done ++ (l.take j).flatMap fun x => (tup rs).map fun t => fs.take k ++ x :: t) H ∧ (∀ x ∈ l.take j, (tup rs).find? (fun t => p (fs.take k ++ x :: t)) = none) ∧
        s' = ⟨30, [(0, iv .i64 k), (1, .ptr p3 0), (2, .ptr p6 0), (3, .ptr p2 0), (4, .ptr p7 0), (16, encI l), (17, iv .i64 l.length), (18, iv .i64 j)], H, n'⟩)
      (fun s' => l.length - (intAt s' 18).toNat) ?_ ?_
    · exact loop_start (by simp [go_sem]) (Sub.refl _) ⟨0, _, fs, _, by omega, by omega, C.out.up (by omega) (fun _ _ _ _ => rfl) C.out.o6 C.out.len, rfl, fun _ _ _ _ => rfl, by simpa using hd, by simp, rfl⟩
    · rintro s' ⟨j, n', fj, H, hn', hj, Cj, hfj, hfr, hJj, hnone, rfl⟩
      have hlj := Cj.len
      by_cases hlt : j < l.length
      · obtain ⟨x, hx⟩ : ∃ x, l[j]? = some x := ⟨l[j], List.getElem?_eq_getElem hlt⟩
        have hx2 : l[j] = x := by rw [List.getElem?_eq_getElem hlt] at hx; exact Option.some.inj hx
        have hspl : List.take k (List.map (iv .i64) fj) ++ iv .i64 x :: List.drop (k + 1) (List.map (iv .i64) fj) = (List.map (iv .i64) fj).set k (iv .i64 x) := by rw [← List.map_set, ← splice_set fj k x (by omega)]; simp [splice]
        have o6 := Cj.o6
        have o7 := Cj.o7
        have d7 := Cj.d7
        have hpx : (fj.set k x).take (k + 1) = fs.take k ++ [x] := by
          rw [List.take_succ_eq_append_getElem (by rw [List.length_set]; omega), List.take_set_of_le (by omega), hfj]; simp
        have C2 : ∀ n2, n' ≤ n2 → ChAt n0 n2 (H.upd p6 (some (.cells ((fj.set k x).map (iv .i64))))) p3 p6 p2 p7 g caps ls (fj.set k x) := fun n2 h2 =>
          Cj.up h2 (fun y _ _ hy => upd_ne _ _ _ _ hy) (upd_same _ _ _) (by rw [List.length_set]; exact hlj)
        have J2 := hJ _ H (H.upd p6 (some (.cells ((fj.set k x).map (iv .i64))))) (fun y hy => upd_ne _ _ _ _ (by have := Cj.l6.1; omega)) hJj
        have ec : ((k + 1 : Nat) : Int) = (k : Int) + 1 := by omega
        have IH2 := fun n2 h2 => IH.out (fj.set k x) _ _ n2 (C2 n2 h2) J2
        rw [ec] at IH2
        simp only [List.map_set] at IH2
        replace IH2 : Hide _ := IH2
        replace Cj : Hide _ := Cj
        replace hfr : Hide _ := hfr
        replace hJj : Hide _ := hJj
        replace hnone : Hide _ := hnone
        replace hx : Hide _ := hx
        replace hpx : Hide _ := hpx
        clear C2 J2 ec
        repeat' (first | (refine ac_seq_h fun K hK => ?_) | (refine ac_region_h fun K hK => ?_; simp (disch := omega) [go_sem, *, wrap64_id, upd_ne, stepK_if, ilt_true, ile_true]) | (apply Hide.out hK; clear hK K; try with_reducible dsimp only [thenA]) | (apply Hide.out ht; clear ht hf Kt Kf) | (refine ac_block ?_) | (refine ac_skip ?_; simp only [thenA]) | (refine ac_cond_h fun Kt Kf ht hf => ?_; simp (disch := omega) [go_sem, *]; try (refine ⟨fun hc => ?_, fun hc => ?_⟩ <;> try (exfalso; omega))))
        refine .inl ((IH2.out _ (by omega)).mono fun r h2 n2 hp => ?_)
        obtain ⟨hn2, hx3, fs', C3, hm⟩ := hp
        rw [hpx.out, ← hrs.out] at hm
        have hfr3 : ∀ y, n0 ≤ y → y < n → y ≠ p6 → h2 y = h y := fun y h1 h2' h3 => by
          rw [hx3 y h1 (by omega) h3, upd_ne _ _ _ _ h3]; exact hfr.out y h1 h2' h3
        have eq1 : (fun t => p (List.take k fs ++ [x] ++ t)) = fun t => p (List.take k fs ++ x :: t) := by funext t; simp
        rw [eq1] at hm
        replace hfr3 : Hide _ := hfr3
        replace C3 : Hide _ := C3
        replace hx3 : Hide _ := hx3
        cases hfd : (tup rs).find? (fun t => p (List.take k fs ++ x :: t)) with
        | some t =>
          rw [hfd] at hm
          obtain ⟨rfl, hfs', d', hJ'⟩ := hm
          replace hfd : Hide _ := hfd
          replace hfs' : Hide _ := hfs'
          replace hJ' : Hide _ := hJ'
          repeat' (first | (refine ac_seq_h fun K hK => ?_) | (refine ac_region_h fun K hK => ?_; simp (disch := omega) [go_sem, *]) | (apply Hide.out hK; clear hK K; try with_reducible dsimp only [thenA]) | (apply Hide.out ht; clear ht hf Kt Kf) | (refine ac_cond_h fun Kt Kf ht hf => ?_; simp (disch := omega) [go_sem, *]; try (refine ⟨fun hc => ?_, fun hc => ?_⟩ <;> try (exfalso; omega))))
          refine ac_ret ?_
          try dsimp only [thenA, blockA]
          refine ⟨by simp, _, (by first | rfl | (simp (disch := omega) [go_sem, upd_ne] <;> rfl)), ?_⟩
          refine ret_id ⟨by omega, fun y h1 h2 h3 => hfr3.out y h1 h2 h3, fs', C3.out.up (by omega) (fun _ _ _ _ => rfl) C3.out.o6 C3.out.len, ?_⟩
          have hfk : (tup (ls.drop k)).find? (fun t => p (fs.take k ++ t)) = some (x :: t) := by
            rw [hdr.out, ← hrs.out]
            exact find_at (fun t => p (fs.take k ++ t)) l rs j x t hx.out hnone.out hfd.out
          rw [hfk]
          exact ⟨rfl, by rw [hfs'.out]; simp, d', hJ'.out⟩
        | none =>
          rw [hfd] at hm
          obtain ⟨rfl, hfs', hJ'⟩ := hm
          replace hfd : Hide _ := hfd
          replace hfs' : Hide _ := hfs'
          replace hJ' : Hide _ := hJ'
          repeat' (first | (refine ac_region_h fun K hK => ?_; simp (disch := omega) [go_sem, *, wrap64_id]) | (apply Hide.out hK; clear hK K; try with_reducible dsimp only [thenA]) | (apply Hide.out hf; clear ht hf Kt Kf) | (refine ac_skip ?_; simp only [thenA, blockA]) | (refine ac_cond_h fun Kt Kf ht hf => ?_; simp (disch := omega) [go_sem, *]; try (refine ⟨fun hc => ?_, fun hc => ?_⟩ <;> try (exfalso; omega))))
          refine round_end (by simp (disch := omega) [go_sem]) (Sub.refl _) ⟨j + 1, _, fs', _, ?_, by omega, C3.out.up (by omega) (fun _ _ _ _ => rfl) C3.out.o6 C3.out.len, ?_, hfr3.out, ?_, ?_, rfl⟩ (by simp [intAt, go_sem]; omega)
          · omega
          · have h1 := hfs'.out
            have h2 : (fs'.take (k + 1)).take k = fs'.take k := by rw [List.take_take]; congr 1; omega
            rw [← h2, h1, List.take_append_of_le_length (by rw [List.length_take]; have := C.out.len; omega), List.take_take]; congr 1; omega
          · have h1 := hJ'.out
            have e1 : l.take (j + 1) = l.take j ++ [x] := by rw [List.take_succ_eq_append_getElem hlt, hx2]
            rw [e1]
            simpa [List.flatMap_append, List.append_assoc] using h1
          · intro y hy
            rw [List.take_succ_eq_append_getElem hlt, hx2] at hy
            rcases List.mem_append.1 hy with h1 | h1
            · exact hnone.out y h1
            · rw [List.mem_singleton.1 h1]; exact hfd.out
      · have hjj : j = l.length := by omega
        subst hjj
        replace hfr : Hide _ := hfr
        replace Cj : Hide _ := Cj
        replace hJj : Hide _ := hJj
        replace hnone : Hide _ := hnone
        repeat' (first | (refine ac_seq_h fun K hK => ?_) | (refine ac_region_h fun K hK => ?_; simp (disch := omega) [go_sem, *]) | (apply Hide.out hK; clear hK K; try with_reducible dsimp only [thenA]) | (apply Hide.out hf; clear ht hf Kt Kf) | (clear hK K; apply Hide.out hK; clear hK K; try with_reducible dsimp only [thenA]) | (refine ac_exit ?_; simp only [thenA, blockA, if_true]) | (refine ac_cond_h fun Kt Kf ht hf => ?_; simp (disch := omega) [go_sem, *]; try (refine ⟨fun hc => ?_, fun hc => ?_⟩ <;> try (exfalso; omega))))
        refine ac_ret ?_
        try dsimp only [thenA, blockA]
        refine ⟨by simp, _, (by first | rfl | (simp (disch := omega) [go_sem, upd_ne] <;> rfl)), ?_⟩
        refine ret_id ⟨by omega, hfr.out, fj, Cj.out.up (by omega) (fun _ _ _ _ => rfl) Cj.out.o6 Cj.out.len, ?_⟩
        rw [List.take_length] at hJj hnone
        have hfk : (tup (ls.drop k)).find? (fun t => p (fs.take k ++ t)) = none := by
          rw [hdr.out, ← hrs.out]
          exact find_none (fun t => p (fs.take k ++ t)) l rs hnone.out
        rw [hfk]
        refine ⟨rfl, hfj, ?_⟩
        have := hJj.out
        rw [hdr.out, ← hrs.out]
        simpa [tup, List.map_flatMap, Function.comp_def] using this
end Go.AM

namespace Go.AM
open Go.Proofs Cw
set_option maxRecDepth 10000
set_option maxHeartbeats 4000000
theorem first_spec (a b c d e : List Int) (g : Nat) (caps : List AV) (la : a.length ≤ 100000) (lb : b.length ≤ 100000) (lc : c.length ≤ 100000) (ld : d.length ≤ 100000) (le : e.length ≤ 100000) (J : List (List Int) → AHeap → Prop) (p : List Int → Bool) (n : Nat) (h : AHeap)
    (hJ : ∀ d h1 h2, (∀ x, x < n → h2 x = h1 x) → J d h1 → J d h2) (A : Asks n J p g caps) (hd : J [] h) :
    ACalls Tryz.prog 61 [.agg [encI a, encI b, encI c, encI d, encI e], .func (.func g) [] caps] h n fun r h' n' => n ≤ n' ∧ match (tup [a, b, c, d, e]).find? p with
      | some t => r = .tup [.agg (t.map (iv .i64)), bv true] ∧ ∃ d', J d' h'
      | none => r = .tup [.agg [iv .i64 0, iv .i64 0, iv .i64 0, iv .i64 0, iv .i64 0], bv false] ∧ J (tup [a, b, c, d, e]) h' := by
  refine ACalls.entry (by kernel_rfl) fun hb _ => calls_of Tryz.func61 rfl (by kernel_rfl) (by simp [Tryz.ntmps61]) ?_
  replace A : Hide _ := A
  replace hd : Hide _ := hd
  replace hJ : Hide _ := hJ
  repeat' (first | (refine ac_seq_h fun K hK => ?_) | (refine ac_region_h fun K hK => ?_; simp (disch := omega) [go_sem, *, Tryz.ntmps61]) | (apply Hide.out hK; clear hK K; try with_reducible dsimp only [thenA]))
  have hlb : ∀ l ∈ [a, b, c, d, e], l.length ≤ 100000 := by
    intro l hl
    simp only [List.mem_cons, List.not_mem_nil, or_false] at hl
    rcases hl with rfl | rfl | rfl | rfl | rfl <;> omega
  refine .inl ((choose_spec n (n + 1) (n + 4) n (n + 5) g caps [a, b, c, d, e] rfl hlb J hJ.out p A.out 5 0 rfl [0, 0, 0, 0, 0] [] _ _
    ⟨by simp (disch := omega) only [upd_ne, upd_same], (by simp (disch := omega) only [upd_ne, upd_same]; rfl), (by simp (disch := omega) only [upd_ne, upd_same]; rfl), by simp (disch := omega) only [upd_same], by omega, by omega, by omega, by omega, by omega, by omega, by omega, rfl⟩
    (hJ.out [] h _ (fun x hx => by simp (disch := omega) only [upd_ne]) hd.out)).mono fun r h2 n2 hp => ?_)
  obtain ⟨hn2, hx2, fs', C3, hm⟩ := hp
  have o2 := hx2 (n + 2) (by omega) (by omega) (by omega)
  simp (disch := omega) only [upd_ne, upd_same] at o2
  have o6 := C3.o6
  have hl5 := C3.len
  simp only [List.take_zero, List.nil_append, List.drop_zero, List.map_id'] at hm
  replace C3 : Hide _ := C3
  replace hx2 : Hide _ := hx2
  replace hlb : Hide _ := hlb
  cases hf : (tup [a, b, c, d, e]).find? p with
  | some t =>
    rw [hf] at hm
    obtain ⟨rfl, rfl, d', hJ'⟩ := hm
    replace hf : Hide _ := hf
    replace hJ' : Hide _ := hJ'
    obtain ⟨t0, t1, t2, t3, t4, rfl⟩ : ∃ a b c d e, fs' = [a, b, c, d, e] := by
      match fs', hl5 with
      | [a, b, c, d, e], _ => exact ⟨a, b, c, d, e, rfl⟩
    simp only [List.map_cons, List.map_nil] at o6
    repeat' (first | (refine ac_seq_h fun K hK => ?_) | (refine ac_region_h fun K hK => ?_; simp (disch := omega) [go_sem, *]) | (apply Hide.out hK; clear hK K; try with_reducible dsimp only [thenA]) | (apply Hide.out ht; clear ht hf Kt Kf) | (refine ac_cond_h fun Kt Kf ht hf => ?_; simp (disch := omega) [go_sem, *]; try (refine ⟨fun hc => ?_, fun hc => ?_⟩ <;> try (exfalso; omega))))
    refine ac_ret ?_
    try dsimp only [thenA, blockA]
    refine ⟨by simp, _, (by first | rfl | (simp (disch := omega) [go_sem] <;> rfl)), ?_⟩
    refine ret_id ⟨by omega, ?_⟩
    rw [hf.out]
    exact ⟨rfl, d', hJ.out _ h2 _ (fun x hx => by simp (disch := omega) only [upd_ne]) hJ'.out⟩
  | none =>
    rw [hf] at hm
    obtain ⟨rfl, _, hJ'⟩ := hm
    replace hf : Hide _ := hf
    replace hJ' : Hide _ := hJ'
    repeat' (first | (refine ac_seq_h fun K hK => ?_) | (refine ac_region_h fun K hK => ?_; simp (disch := omega) [go_sem, *]) | (apply Hide.out hK; clear hK K; try with_reducible dsimp only [thenA]) | (apply Hide.out hf; clear ht hf Kt Kf) | (refine ac_skip ?_; simp only [thenA]) | (refine ac_cond_h fun Kt Kf ht hf => ?_; simp (disch := omega) [go_sem, *]; try (refine ⟨fun hc => ?_, fun hc => ?_⟩ <;> try (exfalso; omega))))
    refine ac_ret ?_
    try dsimp only [thenA, blockA]
    refine ⟨by simp, _, (by first | rfl | (simp (disch := omega) [go_sem] <;> rfl)), ?_⟩
    refine ret_id ⟨by omega, ?_⟩
    rw [hf.out]
    exact ⟨rfl, hJ.out _ h2 _ (fun x hx => by simp (disch := omega) only [upd_ne]) hJ'.out⟩
end Go.AM

namespace Go.AM
open Go.Proofs Cw
set_option maxRecDepth 10000
set_option maxHeartbeats 4000000
abbrev outDP (r : Fs × Bool × Int) : AV := .tup [encF r.1, bv r.2.1, iv .i64 r.2.2]
end Go.AM
