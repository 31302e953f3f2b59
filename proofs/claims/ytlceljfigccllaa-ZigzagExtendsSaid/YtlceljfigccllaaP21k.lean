/- Zigzag paths, plain: checkpoints that are drawn. -/
import Derived.Test.YtlceljfigccllaaA21k
import Derived.Test.YtlceljfigccllaaP21d
set_option linter.unusedSimpArgs false
set_option linter.unusedVariables false
namespace Go.Mine
open Go.RowKit
/-- drawn checkpoints: of processes that rise -/
structure DrwC (n : Nat) (p : Pat) (l : List Pt) : Prop where
  vn : ∀ x ∈ l, VN n p x
  len : l.length ≤ n
  asc : l.Pairwise fun x y => x.proc < y.proc
theorem ckpts_g {n B : Nat} {p : Pat} (h : PatG n B p) (hn : n ≤ 5) (hB : B ≤ 64) {c : List Int} {i : Int} (hc : COk c i) : Ok (make_Codes_Ckpts 10000000 p c i) fun r => DrwC n p r.1 := by
  have hk := h.ck
  unfold make_Codes_Ckpts
  refine Ok.bind (Q := fun t => DrwC n p t.2) (Ok.for_ n (fun k s => s.2.2 = (k : Int) ∧ COk c s.1 ∧ (∀ x ∈ s.2.1, VN n p x ∧ x.proc < k) ∧ s.2.1.length ≤ k ∧ s.2.1.Pairwise fun x y => x.proc < y.proc) ⟨rfl, hc, by simp, by simp, by simp⟩ (by omega) ?_) fun t ht => Ok.ret ht
  rintro k ⟨j, l, i2⟩ hk2 ⟨e, hcj, hl, hll, hla⟩
  simp only at e hcj hl hll hla
  subst e
  simp only [make_Codes_Ckpts_B1]
  refine Ok.iteP (fun hkl => ?_) (fun hkl => Ok.ret ⟨fun x hx => (hl x hx).1, by simp only; omega, hla⟩)
  refine (Ok.next hcj (by omega)).bind fun v ⟨v0, v1, hcv, _⟩ => ?_
  have hkeep : ∀ x ∈ l, VN n p x ∧ x.proc < ((k + 1 : Nat) : Int) := fun x hx => ⟨(hl x hx).1, by have := (hl x hx).2; omega⟩
  refine Ok.iteE (fun _ => ?_) (fun _ => Ok.ret ⟨by omega, w64_nat (by omega), hcv, hkeep, by simp only; omega, hla⟩)
  have hw := h.ckW k
  rw [ati_ck (by omega) (by omega), Option.bind_some, w64_id (by omega) (by omega)]
  refine (Ok.next hcv (by omega)).bind fun x ⟨x0, x1, hcx, _⟩ => (Ok.snoc (by omega)).bind fun y hy => Ok.ret ⟨by omega, w64_nat (by omega), hcx, fun z hz => ?_, by simp [hy]; omega, ?_⟩
  · simp only [hy] at hz
    rcases List.mem_append.1 hz with h5 | h5
    · exact hkeep z h5
    · simp at h5; subst h5
      exact ⟨⟨by simp only; omega, by simp only; omega, x0, by simp only; omega⟩, by simp only; omega⟩
  · simp only [hy]
    refine List.pairwise_append.2 ⟨hla, by simp, fun a ha b hb => ?_⟩
    simp at hb; subst hb
    exact (hl a ha).2
end Go.Mine
