/- A tree that is read back out of its bytes, and not out of fewer: plain. No condition. -/
import Derived.Test.YtanlobdidjednaaGreatDoorTModM
import Derived.Test.YtanlobdidjednaaGreatDoorTRd
set_option linter.unusedVariables false
set_option linter.unusedSimpArgs false
namespace Go.Proofs.YtanlobdidjednaaGreatDoor

def okB (p : List UInt8 × NodeT) : Prop := p.2.data.length ≤ 60 ∧ (0 ≤ p.2.version ∧ p.2.version ≤ 281474976710655) ∧ (0 ≤ p.2.below ∧ p.2.below ≤ 281474976710655) ∧ (0 ≤ p.2.owner ∧ p.2.owner ≤ 281474976710655) ∧ (0 ≤ p.2.made ∧ p.2.made ≤ 281474976710655) ∧ (0 ≤ p.2.set ∧ p.2.set ≤ 281474976710655) ∧ (0 ≤ p.2.serial ∧ p.2.serial ≤ 281474976710655)
structure GoodT (M : TreeT) : Prop where
  asc : AscN M
  len : M.length ≤ 60
  ne : M ≠ []
  num : ∀ p ∈ M, okB p
theorem up_less {k : List UInt8} (h : checkF k = 0) (hr : k ≠ [47]) : Op.bytesLess (upF k).1 k = true := by
  obtain ⟨l, p, e, hp, hne, hl, _⟩ := check_shape h hr
  have hu := upF_cat l p hp hne
  rw [← e] at hu
  have hcons : ∀ (a : UInt8) (q : List UInt8), Op.bytesLess [] (a :: q) = true := fun a q => by rw [bytesLess_eq]; simp
  rw [hu]
  by_cases h0 : l = []
  · subst h0
    rw [if_pos rfl, e]
    cases p with
    | nil => exact absurd rfl hne
    | cons a q =>
      have := less_app [47] [] (a :: q)
      rw [List.append_nil] at this
      simp only [List.nil_append]
      exact this.trans (hcons a q)
  · rw [if_neg h0]
    simp only
    conv => lhs; arg 2; rw [e]
    have := less_app l [] (47 :: p)
    rw [List.append_nil] at this
    rw [this]
    exact hcons _ _
theorem last_of {M : TreeT} (h : (keys M).Pairwise fun a b => Op.bytesLess a b = true) : ∀ k ∈ keys M, k = lastP M ∨ Op.bytesLess k (lastP M) = true := by
  intro k hk
  rcases List.eq_nil_or_concat M with rfl | ⟨r, p, rfl⟩
  · simp at hk
  · rw [List.concat_eq_append] at *
    rw [lastP_snoc]
    have hkk : keys (r ++ [p]) = keys r ++ [p.1] := by simp [keys]
    rw [hkk] at h hk
    rcases List.mem_append.1 hk with hk | hk
    · exact .inr ((List.pairwise_append.1 h).2.2 k hk p.1 (by simp))
    · exact .inl (by simpa using hk)
theorem Mod.asc_ {T M : TreeT} {n : Nat} (h : Mod T M n) : AscN M := ⟨h.asc, last_of h.asc, h.ok⟩
theorem Mod.good {T M : TreeT} {n : Nat} (h : Mod T M n) (hn : n ≤ 1000) : GoodT M := by
  refine ⟨h.asc_, h.len, ?_, ?_⟩
  · rintro rfl
    have := h.root
    simp at this
  · intro p hp
    obtain ⟨h1, h2, h3, h4, h5, h6, h7, h8, h9, h10, h11, h12, h13⟩ := h.num p hp
    refine ⟨h13, ⟨h1, ?_⟩, ⟨h3, ?_⟩, ⟨h7, ?_⟩, ⟨h9, ?_⟩, ⟨h11, ?_⟩, ⟨h5, ?_⟩⟩ <;> omega
theorem Mod.layN {T M : TreeT} {n : Nat} (h : Mod T M n) : Go.Proofs.YtanlobdidjednaaGreatDoor.layN T = nums [(M.length : Int)] ++ M.flatMap nodB := by
  have hn : normN T = M := by
    unfold normN
    rw [h.pathsF]
    simp only [keys, List.map_map]
    conv => rhs; rw [← List.map_id M]
    apply List.map_congr_left
    intro p hp
    simp [h.get, mget_some h.nodup (show (p.1, p.2) ∈ M from hp)]
  unfold Go.Proofs.YtanlobdidjednaaGreatDoor.layN
  rw [hn, h.len_eq]
theorem AscN.layN {M : TreeT} (h : AscN M) : Go.Proofs.YtanlobdidjednaaGreatDoor.layN M = nums [(M.length : Int)] ++ M.flatMap nodB := by
  unfold Go.Proofs.YtanlobdidjednaaGreatDoor.layN
  rw [h.norm]

theorem nodR_app {p : List UInt8 × NodeT} (h : okB p) (hl : p.1.length ≤ 60) (z : List UInt8) : nodR (nodB p ++ z, false) = (p, (z, false)) := by
  obtain ⟨s, d, ve, bl, ow, md, st, sr⟩ := p
  obtain ⟨h0, ⟨h1, h2⟩, ⟨h3, h4⟩, ⟨h5, h6⟩, ⟨h7, h8⟩, ⟨h9, h10⟩, ⟨h11, h12⟩⟩ := h
  simp only at h0 h1 h2 h3 h4 h5 h6 h7 h8 h9 h10 h11 h12 hl
  have e : nodB (s, ⟨d, ve, bl, ow, md, st, sr⟩) ++ z = txt s ++ (txt d ++ (num6 ve ++ (num6 bl ++ (num6 ow ++ (num6 md ++ (num6 st ++ (num6 sr ++ z))))))) := by simp [nodB, nums, txts]
  rw [e]
  unfold nodR
  rw [rt_app s _ 60 (by omega) (by omega)]
  simp only
  rw [rt_app d _ 60 (by omega) (by omega)]
  simp only
  rw [rn_app ve _ _ h1 h2 (by omega)]
  simp only
  rw [rn_app bl _ _ h3 h4 (by omega)]
  simp only
  rw [rn_app ow _ _ h5 h6 (by omega)]
  simp only
  rw [rn_app md _ _ h7 h8 (by omega)]
  simp only
  rw [rn_app st _ _ h9 h10 (by omega)]
  simp only
  rw [rn_app sr _ _ h11 h12 (by omega)]
theorem take_good {M : TreeT} (h : AscN M) {k : Nat} (hk : k < M.length) : ¬ badN (M.take k) M[k].1 = true := by
  have e1 : M = M.take k ++ M[k] :: M.drop (k + 1) := by
    conv => lhs; rw [← List.take_append_drop k M]
    rw [List.drop_eq_getElem_cons hk]
  have hm : M[k].1 ∈ keys M := List.mem_map.2 ⟨_, List.getElem_mem hk, rfl⟩
  obtain ⟨h1, h2⟩ := h.ok _ hm
  have ha := h.asc
  have hkk : keys M = keys (M.take k) ++ M[k].1 :: keys (M.drop (k + 1)) := by
    show List.map _ M = List.map _ _ ++ _
    conv => lhs; rw [e1]
    rw [List.map_append, List.map_cons]
  rw [hkk, List.pairwise_append] at ha
  obtain ⟨a1, a2, a3⟩ := ha
  have hlast : Op.bytesLess (lastP (M.take k)) M[k].1 = true := by
    rcases List.eq_nil_or_concat (M.take k) with e | ⟨r, p, e⟩
    · rw [e]
      show Op.bytesLess [] _ = true
      cases hx : M[k].1 with
      | nil => rw [hx, check_nil] at h1; simp at h1
      | cons a q => rw [bytesLess_eq]; simp
    · rw [e, List.concat_eq_append, lastP_snoc]
      exact a3 p.1 (by rw [e]; simp) _ (by simp)
  have hnl : (Op.bytesLess M[k].1 (lastP (M.take k)) || M[k].1 == lastP (M.take k)) = false := by
    rw [Bool.or_eq_false_iff]
    refine ⟨?_, ?_⟩
    · rw [Bool.eq_false_iff]
      intro hc
      have := less_tr hc hlast
      rw [less_irr] at this
      cases this
    · rw [beq_eq_false_iff_ne]
      intro hc
      rw [← hc, less_irr] at hlast
      cases hlast
  have hup : ((mget (M.take k) (upF M[k].1).1).isNone && decide (M[k].1 ≠ [47])) = false := by
    by_cases hr : M[k].1 = [47]
    · simp [hr]
    · rcases h2 with h2 | h2
      · exact absurd h2 hr
      · have hul := up_less h1 hr
        have hin : (upF M[k].1).1 ∈ keys (M.take k) := by
          rw [hkk] at h2
          rcases List.mem_append.1 h2 with h2 | h2
          · exact h2
          · exfalso
            rcases List.mem_cons.1 h2 with h2 | h2
            · rw [h2, less_irr] at hul
              cases hul
            · have := (List.pairwise_cons.1 a2).1 _ h2
              have := less_tr this hul
              rw [less_irr] at this
              cases this
        obtain ⟨v, hv⟩ := mem_keys_mget.1 hin
        rw [hv]
        rfl
  unfold badN
  rw [hnl, hup, h1]
  simp
theorem treR_app {M : TreeT} (h : GoodT M) (z : List UInt8) : ∀ k ≤ M.length, treR (M.flatMap nodB ++ z, false) k = some (M.take k, ((M.drop k).flatMap nodB ++ z, false)) := by
  intro k
  induction k with
  | zero => intro _; simp [treR]
  | succ k ih =>
    intro hk
    have hp : M[k]? = some M[k] := List.getElem?_eq_getElem (by omega)
    have hd : M.drop k = M[k] :: M.drop (k + 1) := List.drop_eq_getElem_cons (by omega)
    have hm := List.mem_of_getElem? hp
    have hb := take_good h.asc (k := k) (by omega)
    have hln := check_len (h.asc.ok M[k].1 (List.mem_map.2 ⟨_, hm, rfl⟩)).1
    simp only [treR, ih (by omega)]
    rw [hd, List.flatMap_cons, List.append_assoc, nodR_app (h.num _ hm) hln]
    simp only
    rw [if_neg hb, List.take_succ_eq_append_getElem (by omega)]
theorem readTr_tail {M : TreeT} (h : GoodT M) (z : List UInt8) : readTr (layN M ++ z, false) = (M, (z, false)) := by
  have e : layN M ++ z = num6 (M.length : Int) ++ (M.flatMap nodB ++ z) := by rw [h.asc.layN]; simp [nums]
  have hl := h.len
  unfold readTr
  rw [e, rn_app _ 60 _ (by omega) (by omega) (by omega)]
  simp only [Int.toNat_natCast]
  rw [treR_app h z M.length (Nat.le_refl _)]
  simp [h.ne]
theorem nodR_ok (x : RS) : okB (nodR x).1 := by
  refine ⟨?_, ⟨rn_lo _ _, rn_hi _ _ (by decide)⟩, ⟨rn_lo _ _, rn_hi _ _ (by decide)⟩, ⟨rn_lo _ _, rn_hi _ _ (by decide)⟩, ⟨rn_lo _ _, rn_hi _ _ (by decide)⟩, ⟨rn_lo _ _, rn_hi _ _ (by decide)⟩, ⟨rn_lo _ _, rn_hi _ _ (by decide)⟩⟩
  have := rt_len (rt x 60).2 60 (by decide)
  simp only [nodR]
  omega
theorem treR_ok (x : RS) (k : Nat) (m : TreeT) (y : RS) (h : treR x k = some (m, y)) : ∀ p ∈ m, okB p := by
  induction k generalizing m y with
  | zero => simp [treR] at h; rw [h.1]; simp
  | succ k ih =>
    simp only [treR] at h
    cases hs : treR x k with
    | none => rw [hs] at h; cases h
    | some q =>
      obtain ⟨m1, y1⟩ := q
      rw [hs] at h
      simp only at h
      split at h
      · cases h
      · simp only [Option.some.injEq, Prod.mk.injEq] at h
        obtain ⟨rfl, _⟩ := h
        intro p hp
        rcases List.mem_append.1 hp with hp | hp
        · exact ih m1 y1 hs p hp
        · simp only [List.mem_singleton] at hp
          subst hp
          exact nodR_ok y1
theorem readTr_cut {M : TreeT} (h : GoodT M) (r : Nat) (hr : r < (layN M).length) : (readTr ((layN M).take r, false)).2.2 = true := by
  cases hf : (readTr ((layN M).take r, false)).2.2 with
  | true => rfl
  | false =>
    exfalso
    have hh := rn_hi ((layN M).take r, false) 60 (by decide)
    have hlo := rn_lo ((layN M).take r, false) 60
    have h0 := rn_took ((layN M).take r, false) 60
    unfold readTr at hf
    generalize rn ((layN M).take r, false) 60 = a at *
    cases hs : treR a.2 a.1.toNat with
    | none => rw [hs] at hf; simp [fl] at hf
    | some q =>
      obtain ⟨m, y⟩ := q
      rw [hs] at hf
      simp only at hf
      split at hf
      · simp [fl] at hf
      · rename_i hy
        simp only [not_or, Bool.not_eq_true] at hy
        have h1 := h0.trans (treR_took _ _ _ _ hs)
        have h2 := (h1 hy.1).2
        obtain ⟨hlen, hasc⟩ := treR_len _ _ _ _ hs
        have hm : GoodT m := ⟨hasc, by omega, hy.2, treR_ok _ _ _ _ hs⟩
        have e : ((m.length : Nat) : Int) = a.1 := by omega
        simp only at h2
        have h3 : (layN M).take r = layN m ++ y.1 := by rw [h2, hasc.layN]; simp [nums, e]
        have h4 : layN M = layN m ++ (y.1 ++ (layN M).drop r) := by
          rw [← List.append_assoc, ← h3, List.take_append_drop]
        have h5 := readTr_tail h []
        rw [List.append_nil, h4, readTr_tail hm] at h5
        simp only [Prod.mk.injEq, and_true, List.append_eq_nil_iff, List.drop_eq_nil_iff] at h5
        omega
theorem Mod.self {T M : TreeT} {n : Nat} (h : Mod T M n) : Mod M M n := ⟨List.Perm.refl _, h.asc, h.ok, h.root, h.len, h.num⟩
theorem Mod.layN_eq {T M : TreeT} {n : Nat} (h : Mod T M n) : Go.Proofs.YtanlobdidjednaaGreatDoor.layN T = Go.Proofs.YtanlobdidjednaaGreatDoor.layN M := by rw [h.layN, h.asc_.layN]
theorem layN_pos (M : TreeT) : 6 ≤ (layN M).length := by
  unfold layN
  rw [List.length_append, nums_length]
  simp
end Go.Proofs.YtanlobdidjednaaGreatDoor
