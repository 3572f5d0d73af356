/- The abstract machine: a region around a call, its slots told. Conditions: as each theorem says. -/
import Derived.Test.YtabidiilbgakoaaGreatDoorAme
namespace Go.AM
open Go.RowKit
def backOK (ops : Array Oper) : Bool := (List.range ops.size).all fun i => match ops[i]? with
  | none => false
  | some o => o.after.toList.all fun e => !Region.binds .any e || decide (e.on < i)
section
variable {P : Program} {ops : Array Oper}
theorem backOK_edge (h : backOK ops = true) {i : Nat} {o : Oper} (ho : ops[i]? = some o) : ∀ e ∈ o.after, Region.binds .any e = true → e.on < i := by
  have hi := (Array.getElem?_eq_some_iff.1 ho).1
  simp only [backOK, List.all_eq_true, List.mem_range] at h
  have h1 := h i hi
  rw [ho] at h1
  simp only [List.all_eq_true, Array.mem_toList_iff, Bool.or_eq_true, Bool.not_eq_true', decide_eq_true_eq] at h1
  intro e he hb
  rcases h1 e he with h2 | h2
  · rw [hb] at h2; cases h2
  · exact h2
theorem ready_nil [Vars] (h : backOK ops = true) {listed : Array Bool} (hn : Region.ready .any ops listed = []) : ∀ j, j < ops.size → listed.getD j true = true := by
  intro j
  induction j using Nat.strongRecOn with
  | _ j ih =>
    intro hj
    cases hl : listed.getD j true with
    | true => rfl
    | false =>
      have hm : j ∈ Region.ready .any ops listed := by
        simp only [Region.ready, List.mem_filter, List.mem_range, Bool.and_eq_true, Bool.not_eq_true']
        refine ⟨hj, hl, ?_⟩
        rw [Array.getElem?_eq_getElem hj]
        simp only [Option.map_some, Option.getD_some]
        refine Array.all_eq_true_iff_forall_mem.2 fun e he => ?_
        cases hb : Region.binds .any e with
        | false => simp
        | true =>
          have h1 := backOK_edge h (Array.getElem?_eq_getElem hj) e he hb
          have h2 := ih e.on h1 (by omega)
          by_cases h3 : e.on < listed.size
          · simp only [Array.getD_eq_getD_getElem?, Array.getElem?_eq_getElem h3, Option.getD_some] at h2 ⊢; simp [h2]
          · have h4 : j < listed.size := by
              rcases Nat.lt_or_ge j listed.size with h5 | h5
              · exact h5
              · simp only [Array.getD_eq_getD_getElem?, Array.getElem?_eq_none h5, Option.getD_none] at hl
                cases hl
            omega
      rw [hn] at hm; cases hm
theorem inv_ok [Vars] (r : Option Nat) {w0 : World} {G0 : Gh} {fl base : Nat} (hfl : fl ≤ base) {K : St → Prop} {Q : Exit → Act → World → Prop} (I : Array Bool → St → Prop) (hb : backOK ops = true)
    (hI : ∀ listed st i o, listed.size = ops.size → ops[i]? = some o → listed.getD i true = false → (∀ e ∈ o.after, Region.binds .any e = true → listed.getD e.on false = true) → I listed st → aOp P ops (base + i) o st (I (listed.setIfInBounds i true)))
    (hK : ∀ listed st, listed.size = ops.size → (∀ j, j < ops.size → listed.getD j true = true) → I listed st → K st)
    (hQ : ∀ G st a w, RSim w0 G0 fl base [] G st a w → K st → Q .normal a w) : ∀ (fuel : Nat) (rem : List Nat) (listed : Array Bool) (G : Gh) (st : St) (a : Act) (w : World),
    rem.Nodup → rem.length ≤ fuel → (∀ j, j ∈ rem ↔ j < ops.size ∧ listed.getD j true = false) → listed.size = ops.size →
    RSim w0 G0 fl base rem G st a w → I listed st → wpAnyIn (FR r) 0 P .any ops Q fuel listed a w := by
  intro fuel
  induction fuel with
  | zero =>
    intro rem listed G st a w hnd hlen hr hsz S h
    have hre : rem = [] := List.length_eq_zero_iff.1 (by omega)
    have hall : ∀ j, j < ops.size → listed.getD j true = true := fun j hj => by
      cases hl : listed.getD j true with
      | true => rfl
      | false => have := (hr j).2 ⟨hj, hl⟩; rw [hre] at this; cases this
    refine ⟨?_, hQ G st a w (S.sub (by simp)) (hK listed st hsz hall h)⟩
    cases hrd : Region.ready .any ops listed with
    | nil => rfl
    | cons i l =>
      obtain ⟨h1, h2, _⟩ := ready_mem (by rw [hrd]; simp : i ∈ Region.ready .any ops listed)
      rw [hall i h1] at h2; cases h2
  | succ fuel ih =>
    intro rem listed G st a w hnd hlen hr hsz S h
    refine ⟨fun hnil => hQ G st a w (S.sub (by simp)) (hK listed st hsz (ready_nil hb hnil) h), fun i' hi => ?_⟩
    obtain ⟨h1, h2, o, ho, h3⟩ := ready_mem hi
    have hop := hI listed st i' o hsz ho h2 h3 h
    have hirem : i' ∈ rem := (hr i').2 ⟨h1, h2⟩
    have hmove : ∀ j, j ∈ i' :: rem.erase i' → j ∈ rem := fun j hj => by
      rcases List.mem_cons.1 hj with rfl | hj
      · exact hirem
      · exact List.mem_of_mem_erase hj
    have hnot : i' ∉ rem.erase i' := fun h' => (hnd.mem_erase_iff.1 h').1 rfl
    have hres := op_ok (Q := Q) (S.sub hmove) hfl hnot hop (next := wpAnyIn (FR r) 0 P .any ops Q fuel (listed.setIfInBounds i' true)) ?_ r
    · unfold wpOpIn
      rw [ho]
      simp only
      split at hres
      · rename_i hw; rw [if_pos hw]; exact hres
      · rename_i hw; rw [if_neg hw]; exact hres
    · intro G' st' a' w' S' h'
      refine ih (rem.erase i') _ G' st' a' w' (hnd.erase _) (by rw [List.length_erase_of_mem hirem]; omega) (fun j => ?_) (by simpa using hsz) S' h'
      rw [hnd.mem_erase_iff, hr j]
      have hil : i' < listed.size := by omega
      simp only [Array.getD_eq_getD_getElem?, Array.getElem?_setIfInBounds]
      by_cases hji : i' = j
      · subst hji; simp [hil]
      · rw [if_neg hji]
        constructor
        · rintro ⟨_, h3⟩; exact h3
        · intro h3; exact ⟨fun e => hji e.symm, h3⟩
theorem ac_inv [Vars] {fl : Nat} {Q : Exit → St → Prop} {st : St} {id : Nat} (I : Array Bool → St → Prop) (hm : P.follows .mixedOrders = true) (hb : backOK ops = true)
    (h0 : I (Array.replicate ops.size false) { st with n := st.n + ops.size })
    (hI : ∀ listed s i o, listed.size = ops.size → ops[i]? = some o → listed.getD i true = false → (∀ e ∈ o.after, Region.binds .any e = true → listed.getD e.on false = true) → I listed s → aOp P ops (st.n + i) o s (I (listed.setIfInBounds i true)))
    (hK : ∀ listed s, listed.size = ops.size → (∀ j, j < ops.size → listed.getD j true = true) → I listed s → Q .normal s) : ACode P fl (.region id ops true) Q st := by
  intro r w0 G a w hr S hf
  have S' : Sim w0 G st a w.drew := ⟨S.inv.drew, S.size, S.defers, S.slots, S.fresh⟩
  refine wpIn_region_any hm (inv_ok r (base := st.n) (G0 := G) (w0 := w0) hf (K := Q .normal) I hb hI hK (fun G' s a' w' S1 hq => ⟨G', s, S1.ext, S1.lim, S1.sim, hq⟩) ops.size (List.range ops.size) _ G _ a w.drew List.nodup_range (by simp) (fun j => ?_) (by simp) (region_start S' hf ops.size _ (fun j hj => by simpa using hj)) h0)
  simp only [List.mem_range]
  constructor
  · intro hj; exact ⟨hj, by simp [Array.getD_eq_getD_getElem?, hj]⟩
  · exact fun h => h.1
end
end Go.AM
