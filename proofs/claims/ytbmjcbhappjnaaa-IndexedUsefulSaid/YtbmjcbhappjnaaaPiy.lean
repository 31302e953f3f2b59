/- Plain: the indexed protocol: a message received, the whole play. -/
import Derived.Test.YtbmjcbhappjnaaaPix
set_option linter.unusedSimpArgs false
set_option linter.unusedVariables false
namespace Go.Mine
open Go.RowKit
section
variable {n m W : Nat} {p : Pat} {K : List (List Int)} {f : List (List Bool)} {t : List Int} {g : List IndexedLetter} (h : IxI n m W p K f t g)
include h
/-- the event that receives a message whose clock is at most the receiver's -/
theorem got_ix {fuel : Nat} {V : List (List (List Int))} {j q : Nat} {a : Arc} {c : Int} (hm : m ≤ 1000) (hq : q < n) (ha : p.arcs[j]? = some a) (h0 : a.rcv = 0) (hto : a.to = q)
    (hcl : icl (ckR p a.fr) (rwL K a.fr) a.ix ≤ nI t q) (hno : ∀ l ∈ g, l.arc ≠ j) :
    Ok (indexed_computation_receive_J1 fuel a p.lens p.arcs V g ⟨j, c⟩ p.ckpts K f t) fun r => IxI n (m + 1) W ⟨r.1, r.2.1, r.2.2.1⟩ r.2.2.2.1 r.2.2.2.2.1 r.2.2.2.2.2.1 r.2.2.2.2.2.2 := by
  have hl := h.pat.len; have htl := h.tl; have hgl := h.gl
  have hrg := h.pat.nI_rng q
  have hx := nI_get? (x := p.lens) (q := q) (by omega)
  have hj : j < p.arcs.length := (List.getElem?_eq_some_iff.1 ha).1
  have haG := h.pat.arc a (List.mem_of_getElem? ha)
  have hap := h.pos a (List.mem_of_getElem? ha)
  unfold indexed_computation_receive_J1 indexed_computation_event
  rw [hto, ati_nI (by omega) (by omega), Option.bind_some, Option.bind_some, w64_id (by omega) (by omega), seti_get (by omega), Option.bind_some, ati_nI (by omega) (by simp; omega), PatH.set_nI hx _ (by omega), if_pos rfl]
  simp only [Option.bind_some]
  rw [ati_cast, ha, Option.bind_some, seti_get (by omega), Option.bind_some]
  have hpn := h.pat.got hx ha h0 hto
  have hcq := (h.row q hq).icl_next (h.pat.ckI (q := (q : Int)) (by omega) (by omega))
  refine Ok.ret ⟨hpn, h.kl, h.fl, h.tl, h.row, fun b hb => ?_, fun b hb hb0 => ?_, fun l hl2 => ?_, h.nod, by show g.length ≤ m + 1; omega⟩
  · rcases mem_set hb with h5 | rfl
    · exact h.pos b h5
    · exact hap
  · rcases mem_set hb with h5 | rfl
    · exact h.arc b h5 hb0
    · show icl (ckR p a.fr) (rwL K a.fr) a.ix ≤ icl (ckR p a.to) (rwL K a.to) (nI p.lens q + 1)
      rw [hto, hcq]; exact hcl
  · obtain ⟨i, b, h1, h2, h3, h4⟩ := h.let_ l hl2
    have hne := hno l hl2
    refine ⟨i, b, h1, ?_, h3, h4⟩
    show (p.arcs.set j _)[i]? = some b
    rw [getElem?_set' hj, if_neg (fun e => hne (by rw [h1, e]))]
    exact h2
theorem receive_ix {fuel : Nat} {V : List (List (List Int))} {pl : Int} (hm : m ≤ 1000) (hWl : W ≤ 1000) :
    Ok (indexed_computation_receive fuel pl p.lens p.ckpts p.arcs K V f t g) fun r => IxI n (m + 1) (W + 1) ⟨r.1, r.2.1, r.2.2.1⟩ r.2.2.2.1 r.2.2.2.2.1 r.2.2.2.2.2.1 r.2.2.2.2.2.2 := by
  have hl := h.pat.len; have htl := h.tl; have hgl := h.gl
  unfold indexed_computation_receive
  rw [orM_some, Option.bind_some]
  refine Ok.ite (fun hb => Ok.ret h.wide) fun hb => ?_
  simp at hb
  obtain ⟨k, rfl⟩ := Int.eq_ofNat_of_zero_le hb.1
  have hk : k < g.length := by omega
  obtain ⟨j, a, hja, ha, h0, hcl⟩ := h.let_ g[k] (List.getElem_mem hk)
  obtain ⟨h1, hno⟩ := h.took hk
  have haG := h.pat.arc a (List.mem_of_getElem? ha)
  obtain ⟨q, hq⟩ := Int.eq_ofNat_of_zero_le haG.to.1
  have hqn : q < n := by have := haG.to.2; omega
  have hrg := h.pat.nI_rng q
  have hrw := h.row q hqn
  rw [ati_get hk, Option.bind_some, hja, ati_cast, ha, Option.bind_some]
  unfold indexed_computation_full
  rw [hq, ati_nI (by omega) (by omega)]
  simp only [Option.bind_some]
  refine Ok.iteP (fun h64 => Ok.ret h.wide) fun h64 => ?_
  rw [w64_id (by omega) (by omega)]
  have hdel : DeleteIL fuel (k : Int) ((k : Int) + 1) g = some (g.take k ++ g.drop (k + 1)) := by
    unfold DeleteIL
    rw [if_pos ⟨by omega, rfl, by omega, by omega⟩]; simp
  rw [hdel, Option.bind_some, ati_nI (by omega) (by omega), Option.bind_some]
  unfold indexed_Forces
  rw [Option.bind_some]
  have hcle : g[k].clock ≤ W := by
    obtain ⟨q2, hq2⟩ := Int.eq_ofNat_of_zero_le haG.fr.1
    have hq2n : q2 < n := by have := haG.fr.2; omega
    have := (h.row q2 hq2n).icl_rng (h.pat.ckI (q := (q2 : Int)) (by omega) (by omega)) (h.pos a (List.mem_of_getElem? ha))
    have := (h.row q2 hq2n).le
    rw [hcl, hq2]; omega
  have hlet : g[k] = ⟨(j : Int), g[k].clock⟩ := by rw [← hja]
  refine Ok.iteP (fun hlt => ?_) fun hle => ?_
  · rw [Option.bind_some, seti_get (by omega), Option.bind_some]
    refine (ckpt_ix h1 (q := q) hqn (t' := g[k].clock) hlt (by omega) hWl true).bind fun r ⟨hr, hr2⟩ => ?_
    have hset : nI (t.set q g[k].clock) q = g[k].clock := by
      have := nI_set (xs := t) (i := (q : Int)) (j := (q : Int)) (x := g[k].clock) (by omega) (by omega) (by omega)
      rw [Int.toNat_natCast, if_pos rfl] at this; exact this
    rw [hlet]
    refine (got_ix hr (fuel := fuel) (V := V) (j := j) (a := a) (c := g[k].clock) hm hqn ha h0 hq ?_ fun l hl2 => by rw [← hja]; exact hno l hl2).mono fun r2 h2 => h2
    obtain ⟨q2, hq2⟩ := Int.eq_ofNat_of_zero_le haG.fr.1
    have hq2n : q2 < n := by have := haG.fr.2; omega
    have hix := haG.ix.2
    rw [hset, hcl]
    rw [hq2] at hix ⊢
    exact Int.le_of_eq (hr2 q2 hq2n _ (h.pos a (List.mem_of_getElem? ha)) hix)
  · rw [hlet]
    refine (got_ix h1 (fuel := fuel) (V := V) (j := j) (a := a) (c := g[k].clock) hm hqn ha h0 hq ?_ fun l hl2 => by rw [← hja]; exact hno l hl2).mono fun r2 h2 => ?_
    · rw [← hcl]; omega
    · exact ⟨h2.pat.wide (by omega), h2.kl, h2.fl, h2.tl, fun q hq => (h2.row q hq).wide (by omega), h2.pos, h2.arc, h2.let_, h2.nod, h2.gl⟩
theorem IxI.more : IxI n (m + 1) W p K f t g :=
  ⟨h.pat.more (by omega), h.kl, h.fl, h.tl, h.row, h.pos, h.arc, h.let_, h.nod, by have := h.gl; omega⟩
end
theorem begin_ix {fuel n : Nat} (hf : n < fuel) (hn : n ≤ 1000) : Ok (indexed_begin fuel n) fun r => r = (List.replicate n 0, List.replicate n [0], [], List.replicate n [0], [], List.replicate n [false], List.replicate n 0, []) := by
  unfold indexed_begin
  rw [mkL_nat (by omega), Option.bind_some, Option.bind_some]
  refine (Ok.for_ n (fun k s => s = (List.replicate k [0], List.replicate k [0], List.replicate k [false], (k : Int))) (Q := fun s => s = (List.replicate n [0], List.replicate n [0], List.replicate n [false])) rfl hf ?_).bind fun s hs => by subst hs; exact Ok.ret rfl
  rintro k s hk rfl
  simp only [indexed_begin_B1]
  refine Ok.iteP (fun hlt => ?_) fun hlt => Ok.ret (by rw [show k = n by omega]; rfl)
  refine (Ok.snoc (by simp; omega)).bind fun a ha => (Ok.snoc (by simp; omega)).bind fun b hb => (Ok.snoc (by simp; omega)).bind fun c hc => Ok.ret ⟨by omega, ?_⟩
  subst ha hb hc
  rw [w64_nat (by omega), ← List.replicate_succ', ← List.replicate_succ']
theorem play_ix {n : Nat} {l : List Deed} (h1 : 1 ≤ n) (h5 : n ≤ 5) (hl : l.length ≤ 200) :
    Ok (indexed_Play 10000000 n l) fun r => r.2 = 0 ∧ r.1.vecs = [] ∧ ∃ t g, IxI n l.length l.length r.1.pat r.1.clocks r.1.forced t g := by
  unfold indexed_Play
  rw [orM_some, Option.bind_some, if_neg (by simp; omega), if_neg (by simp; omega)]
  refine (begin_ix (by omega) (by omega)).bind fun r hr => ?_
  subst hr
  refine Ok.bind (Q := fun s => IxI n l.length l.length ⟨s.1, s.2.1, s.2.2.1⟩ s.2.2.2.1 s.2.2.2.2.1 s.2.2.2.2.2.1 s.2.2.2.2.2.2) (Ok.for_ l.length (fun k s => s.2.2.2.2.2.2.2 = (k : Int) ∧ IxI n k k ⟨s.1, s.2.1, s.2.2.1⟩ s.2.2.2.1 s.2.2.2.2.1 s.2.2.2.2.2.1 s.2.2.2.2.2.2.1) ⟨rfl, IxI.start⟩ (by omega) ?_) fun s hs => Ok.ret ⟨rfl, rfl, _, _, hs⟩
  rintro k ⟨L, C, A, K, f, t, g, i⟩ hk ⟨hi, h⟩
  simp only at hi h
  subst hi
  simp only [indexed_Play_B1]
  refine Ok.iteP (fun hlt => ?_) fun hlt => Ok.ret (by rw [show l.length = k by omega]; exact h)
  have hkl : k < l.length := by omega
  rw [ati_get hkl, Option.bind_some]
  have hL := h.pat.len; have htl := h.tl
  refine Ok.iteE (fun _ => ?_) fun _ => Ok.iteE (fun _ => ?_) fun _ => Ok.iteE (fun _ => ?_) fun _ => Ok.ret ⟨hkl, w64_nat (by omega), h.wide⟩
  · exact (send_ix h (by omega)).bind fun r hr => Ok.ret ⟨hkl, w64_nat (by omega), hr⟩
  · exact (receive_ix h (by omega) (by omega)).bind fun r hr => Ok.ret ⟨hkl, w64_nat (by omega), hr⟩
  · rw [process_ix h, Option.bind_some]
    refine Ok.ite (fun hb => ?_) fun hb => Ok.ret ⟨hkl, w64_nat (by omega), h.wide⟩
    simp at hb
    obtain ⟨q, hq⟩ := Int.eq_ofNat_of_zero_le hb.1
    have hqn : q < n := by omega
    have hrow := h.row q hqn
    have hle := hrow.le
    have h0 := hrow.nn _ (List.mem_of_getElem? hrow.last)
    rw [hq, ati_nI (x := t) (by omega) (by omega), Option.bind_some, Option.bind_some, w64_id (by omega) (by omega), seti_get (by omega), Option.bind_some]
    exact (ckpt_ix h hqn (t' := nI t q + 1) (by omega) (by omega) (by omega) false).bind fun r hr => Ok.ret ⟨hkl, w64_nat (by omega), hr.1.more⟩
end Go.Mine
