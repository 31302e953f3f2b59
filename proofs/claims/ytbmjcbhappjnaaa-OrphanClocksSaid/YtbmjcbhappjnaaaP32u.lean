/- Chapter 32, plain: lineages without incarnations. -/
import Derived.Test.YtbmjcbhappjnaaaP32v
set_option linter.unusedSimpArgs false
set_option linter.unusedVariables false
namespace Go.Mine
open Go.RowKit
def z0 (e : Evt) : Evt := { e with inc := 0, sent := { e.sent with inc := 0 } }
def zer (l : List (List Evt)) : List (List Evt) := l.map fun r => r.map z0
theorem rl_zer {l : List (List Evt)} {q : Nat} : rl (zer l) q = rl l q := by
  unfold rl zer; rw [List.getElem?_map]; cases l[q]? <;> simp
theorem ev_zer {l : List (List Evt)} {q k : Nat} (hk : k < rl l q) : ev_ (zer l) q k = z0 (ev_ l q k) := by
  unfold ev_ zer rl at *
  rw [List.getElem?_map]
  cases h : l[q]? with
  | none => rw [h] at hk; simp at hk
  | some r => rw [h] at hk; simp at hk ⊢; simp [hk]
theorem ev_inc0 {l : List (List Evt)} (hd : (default : Evt).inc = 0) (q k : Nat) : (ev_ (zer l) q k).inc = 0 := by
  rcases Nat.lt_or_ge k (rl l q) with h | h
  · rw [ev_zer h]; rfl
  · have : k ≥ rl (zer l) q := by rw [rl_zer]; exact h
    unfold ev_; unfold rl at this
    rw [List.getElem?_eq_none this]; exact hd
theorem lbl_zer {l : List (List Evt)} {i : Int} {s : Lab} (h : Lbl (rw_ l i) s) : Lbl (rw_ (zer l) i) { s with inc := 0 } := by
  have e : rw_ (zer l) i = (rw_ l i).map z0 := by unfold rw_ zer; rw [List.getElem?_map]; cases l[i.toNat]? <;> simp
  rcases h with ⟨h1, h2⟩ | ⟨h1, h2, ev, h3, h4⟩
  · exact .inl ⟨h1, rfl⟩
  · exact .inr ⟨h1, by rw [e]; simpa using h2, z0 ev, by rw [e, List.getElem?_map, h3]; rfl, rfl⟩
theorem LOK.zer {n B : Nat} {p : Pat} {l : List (List Evt)} (h : PatG n B p) (hL : LOK n p l) : LOK n p (Go.Mine.zer l) := by
  have hll := hL.ll
  refine ⟨⟨by simp [Go.Mine.zer, hL.lin.len], fun j hj => by rw [rl_zer]; exact hL.lin.row j (by simpa [Go.Mine.zer] using hj)⟩, hL.len, fun q j hq hj hk => ?_, fun a ha => ?_⟩
  · have hr := hL.row hq
    rw [ev_zer (by omega)] at hk ⊢
    obtain ⟨a, a1, a2, a3, a4, a5, a6⟩ := hL.r1 q j hq hj hk
    exact ⟨a, a1, a2, a3, a4, a5, lbl_zer a6⟩
  · obtain ⟨j, j1, j2, j3, j4⟩ := hL.r2 a ha
    have hag := h.arc a ha
    have t0 := hag.to.1; have t1 := hag.to.2; have r1 := hag.rcv.2
    have hr := hL.row (q := a.to.toNat) (by omega)
    rw [Int.toNat_of_nonneg t0] at hr
    refine ⟨j, j1, ?_⟩
    rw [ev_zer (by omega)]
    exact ⟨j2, j3, j4⟩
end Go.Mine
