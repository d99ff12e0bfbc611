/- Whether two states are the same, walked; a state behind any orders. No condition. -/
import Derived.Test.YtanlobdidjednaaGreatDoorStGd
set_option linter.unusedVariables false
set_option linter.unusedSimpArgs false
namespace Go.Proofs.YtanlobdidjednaaGreatDoor
open Go.RowKit

theorem flatS_le {α : Type} (f : α → List UInt8) (c : Nat) : ∀ (l : List α), (∀ x ∈ l, (f x).length ≤ c) → (l.flatMap f).length ≤ c * l.length := by
  intro l
  induction l with
  | nil => simp
  | cons a r ih =>
    intro h
    have h1 := h a (by simp)
    have h2 := ih fun x hx => h x (by simp [hx])
    rw [List.flatMap_cons, List.length_append, List.length_cons, Nat.mul_succ]
    omega
theorem txtS_le (x : List UInt8) (c : Nat) (h : x.length ≤ c) (hc : c ≤ 60000) : (txt x).length ≤ c + 2 := by
  rw [txt_length]
  unfold cut16
  rw [List.length_take]
  omega
theorem layS_pos (s : StT) : 6 ≤ (layS s).length := by
  simp only [layS, List.length_append, nums_length, List.length_cons, List.length_nil]
  omega
/-- a state that has its bytes -/
structure FitS (s : StT) (k m : Nat) : Prop where
  run : RunS s k m
  kk : k ≤ 900
  gd : GdS s
  calm : crowdF s = none
theorem fit0 : FitS st0 1 0 := ⟨run0, by omega, gd0, by unfold crowdF; simp [st0, sortI]⟩
theorem FitS.it {s : StT} {k m : Nat} (h : FitS s k m) : ∃ M n, InvS s M n ∧ n + M.length ≤ k ∧ n ≤ 900 := by
  obtain ⟨M, n, hM, hn⟩ := h.run.it
  have := h.kk
  exact ⟨M, n, hM, hn, by omega⟩
section
variable {s : StT} {kk mm : Nat} (h : FitS s kk mm)
include h
theorem FitS.layN_le : (layN s.tree).length ≤ 400000 := by
  obtain ⟨M, n, hM, _, hn⟩ := h.it
  have hg := hM.tree.good (by omega)
  rw [hM.tree.layN_eq, hg.asc.layN]
  have h1 := flatS_le nodB 160 M (fun p hp => by
    have h2 := check_len (hM.tree.ok p.1 (List.mem_map.2 ⟨p, hp, rfl⟩)).1
    have h3 := (hg.num p hp).1
    have h4 := txtS_le p.1 60 h2 (by decide)
    have h5 := txtS_le p.2.data 60 h3 (by decide)
    simp only [nodB, txts, List.flatMap_cons, List.flatMap_nil, List.length_append, nums_length, List.length_cons, List.length_nil]
    omega)
  have h6 := hg.len
  rw [List.length_append, nums_length]
  simp only [List.length_cons, List.length_nil]
  omega
theorem FitS.layB_le : (layB s.tab).length ≤ 400000 := by
  obtain ⟨M, n, hM, _, hn⟩ := h.it
  have hm := h.gd.modT hM
  unfold layB
  have h1 := flatS_le entB 414 (normT s.tab) (fun p hp => by
    have h2 := (hm.lo p hp).2.2.2.2.2
    have h4 := txtS_le p.2.2 400 h2 (by decide)
    simp only [entB, txts, List.flatMap_cons, List.flatMap_nil, List.length_append, nums_length, List.length_cons, List.length_nil]
    omega)
  have h6 := hm.len
  rw [List.length_append, nums_length]
  simp only [List.length_cons, List.length_nil]
  omega
theorem FitS.layW_le : (layW s.book).length ≤ 400000 := by
  obtain ⟨M, n, hM, _, hn⟩ := h.it
  have hg := h.gd.good h.calm hM (by omega)
  have e1 := h.gd.es_len h.calm hM.len
  have e2 := h.gd.nos_len hM.len
  have e3 := hg.wl
  have h1 := flatS_le watB 70 s.book.ws (fun p hp => by
    have h4 := txtS_le p.path 60 (hg.wk p hp).pl (by decide)
    simp only [watB, txts, flags, List.flatMap_cons, List.flatMap_nil, List.length_append, nums_length, List.length_cons, List.length_nil, List.length_map]
    omega)
  have h2 := flatS_le evB 86 s.book.es (fun p hp => by
    have h4 := txtS_le p.path 60 (hg.ek p hp).pl (by decide)
    simp only [evB, txts, flags, List.flatMap_cons, List.flatMap_nil, List.length_append, nums_length, List.length_cons, List.length_nil, List.length_map]
    omega)
  have h3 := flatS_le nosB 12 (normZ s.book.nos) (fun p hp => by
    simp only [nosB, List.length_append, nums_length, List.length_cons, List.length_nil]
    omega)
  rw [normZ_length] at h3
  simp only [layW, List.length_append, nums_length, List.length_cons, List.length_nil]
  omega
theorem FitS.lay_le : (layS s).length ≤ 2000000 := by
  have h1 := h.layN_le
  have h2 := h.layB_le
  have h3 := h.layW_le
  simp only [layS, List.length_append, nums_length, List.length_cons, List.length_nil]
  omega
theorem FitS.rel {u : StT} (hu : RelS s u) (hn : (keys u.book.nos).Nodup) : FitS u kk mm := by
  obtain ⟨M, n, hM, h8, h9⟩ := h.it
  refine ⟨⟨⟨M, n, hu.inv hM, h8⟩, by rw [hu.at_]; exact h.run.at_⟩, h.kk, ⟨⟨?_, ?_, ?_, hn⟩, ?_⟩, by rw [hu.crowdF]; exact h.calm⟩
  · rw [hu.book.ws]
    exact fun x hx => ⟨(h.gd.book.ws x hx).1, (hu.tab.mem _).2 (h.gd.book.ws x hx).2⟩
  · rw [hu.book.es]
    exact fun x hx => ⟨(h.gd.book.es x hx).1, (hu.tab.mem _).2 (h.gd.book.es x hx).2⟩
  · intro k hk
    refine (hu.tab.mem k).2 (h.gd.book.nos k ?_)
    rw [mem_keys_mget] at hk ⊢
    rw [← hu.book.nos]
    exact hk
  · intro p hp
    have := mget_some hu.tab.nd2 (show (p.1, p.2) ∈ u.tab from hp)
    rw [hu.tab.get] at this
    exact h.gd.tab _ (mget_mem this)
theorem FitS.read : rdS (layS s) = (canS s, ([], false)) ∧ RelS s (canS s) ∧ FitS (canS s) kk mm := by
  obtain ⟨M, n, hM, h8, h9⟩ := h.it
  have h1 := h.gd.canon hM
  exact ⟨h.gd.read h.calm hM (by omega), h1, h.rel h1 (by
    show (keys (normZ s.book.nos)).Nodup
    rw [keys_normZ]
    exact (sortZ_perm _).nodup_iff.2 h.gd.book.nd)⟩
theorem FitS.cut {k : Nat} (hk : k < (layS s).length) : rdone (rdS ((layS s).take k)).2 ≠ 0 := by
  obtain ⟨M, n, hM, h8, h9⟩ := h.it
  exact h.gd.cut h.calm hM (by omega) hk
end
/-- the bytes of two states -/
theorem FitS.lay_eq {s u : StT} {kk mm : Nat} (h : FitS s kk mm) (hu : RelS s u) (hn : (keys u.book.nos).Nodup) : layS u = layS s := by
  obtain ⟨M, n, hM, h8, h9⟩ := h.it
  exact hu.layS hM h.gd.book.nd hn
section
variable {g w : World} {L : List Asn} {b : Nat} {s : StT} {kk mm : Nat}
theorem s_clonest (S0 : Sat g w (stateA b s :: L)) (h : FitS s kk mm) :
    Calls Tryz.prog 19 #[ptr b] w fun e w' => ∃ b2 u, e = .returned (ptr b2) ∧ RelS s u ∧ FitS u kk mm ∧ Sat g w' (stateA b2 u :: stateA b s :: L) := by
  obtain ⟨M, n, hM, h8, h9⟩ := h.it
  have e1 := h.gd.es_len h.calm hM.len
  have e3 := hM.book.ws
  refine (clone_state S0 (by omega) (by omega)).mono ?_
  rintro e w' ⟨b2, nos, rfl, hn, S1⟩
  have hr : RelS s ⟨s.tree, s.tab, ⟨s.book.ws, s.book.es, nos⟩, s.at_⟩ := ⟨⟨M, n, hM.tree, hM.tree⟩, ⟨fun _ => rfl, hM.nd, hM.nd⟩, ⟨rfl, rfl, hn⟩, rfl⟩
  have hnd : (keys nos).Nodup := by
    obtain ⟨t, ts, bk, S2⟩ := S1.stateOpen
    exact (S2.bring 3).bookNd
  exact ⟨b2, _, rfl, hr, h.rel hr hnd, S1⟩
end
theorem cmdOf_R (t : List UInt8) : cmdR (cmdOf t) = true := by
  unfold cmdOf
  split
  · decide
  · rename_i h
    simp only [ne_eq, Decidable.not_not] at h
    exact (readF_bytes h).2
/-- behind an order of any text -/
theorem FitS.step {s : StT} {k m : Nat} (h : FitS s k m) (hk : k ≤ 800) (hm : m ≤ 800) (t : List UInt8) : FitS (applyF s t).2 (k + 8) (m + 1) := by
  obtain ⟨M, n, hM, h8, h9⟩ := h.it
  have hc := cmdOf_R t
  have h4 := (cmdR_at hc).2.2.2.2.1
  have hr := h.run.step hc hk hm
  obtain ⟨a, b⟩ := h.gd.applyC hM h9 (by rw [h.run.at_]; omega) hc
  obtain ⟨⟨M1, n1, g1, g2⟩, g3⟩ := hr
  exact ⟨⟨⟨M1, n1, g1, by omega⟩, g3⟩, by omega, a, b⟩
/-- related states, behind an order of any text -/
theorem FitS.same {s u : StT} {k m : Nat} (h : FitS s k m) (hm : m ≤ 800) (hu : RelS s u) (t : List UInt8) : (applyF u t).1 = (applyF s t).1 ∧ RelS (applyF s t).2 (applyF u t).2 := by
  obtain ⟨M, n, hM, h8, h9⟩ := h.it
  exact hu.applyC hM h9 (by rw [h.run.at_]; omega) (cmdOf_R t)
section
variable {g w : World} {L : List Asn} {b : Nat} {s : StT} {k m : Nat}
theorem s_sayst (S0 : Sat g w (stateA b s :: L)) (hG : GL g) (hm : oldA g ∈ L) (hT : TabE g) (h : FitS s k m) (hm2 : m ≤ 800) {t : List UInt8} (ht : t.length ≤ 1000000) :
    Calls Tryz.prog 20 #[ptr b, .string (S t)] w fun e w' => ∃ A cap, e = .returned (resV (applyF s t).1 A cap) ∧ Sat g w' (rowA 109 2 (.slice A (applyF s t).1.outs.length cap) (applyF s t).1.outs.length ((applyF s t).1.outs.flatMap outC) :: stateA b (applyF s t).2 :: L) := by
  obtain ⟨M, n, hM, h8, h9⟩ := h.it
  exact apply_state S0 hG hm hM (.inr ⟨h9, hT⟩) (by rw [h.run.at_]; omega) t (by omega)
end
end Go.Proofs.YtanlobdidjednaaGreatDoor
