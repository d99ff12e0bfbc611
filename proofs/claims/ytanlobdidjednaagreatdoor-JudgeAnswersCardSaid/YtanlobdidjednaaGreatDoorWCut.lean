/- Plain laws: a book laid is read back, whatever lies behind; cut off it is none. No condition. -/
import Derived.Test.YtanlobdidjednaaGreatDoorBooM
import Derived.Test.YtanlobdidjednaaGreatDoorWatM
set_option linter.unusedVariables false
set_option linter.unusedSimpArgs false
namespace Go.Proofs.YtanlobdidjednaaGreatDoor

/-- what lies behind is left, as long as nothing failed -/
def Ext {α : Type} (f : RS → α × RS) : Prop := ∀ s z, (f (s, false)).2.2 = false → f (s ++ z, false) = ((f (s, false)).1, ((f (s, false)).2.1 ++ z, false))
theorem tk_ext (n : Nat) : Ext fun x => tk x n := by
  intro s z h
  obtain ⟨h1, h2⟩ := tk_took (s, false) n h
  have h3 := (h1 h).2
  simp only at h3
  rw [h3, List.append_assoc]
  have h4 := tk_app (tk (s, false) n).1 ((tk (s, false) n).2.1 ++ z) n h2
  rw [← h3]
  exact h4
theorem rn_ext (most : Int) (h0 : 0 ≤ most) (hm : most ≤ 281474976710655) : Ext fun x => rn x most := by
  intro s z h
  have h3 := (rn_took (s, false) most h).2
  simp only at h3
  have h4 := rn_app (rn (s, false) most).1 most ((rn (s, false) most).2.1 ++ z) (rn_lo _ _) (rn_hi _ _ h0) hm
  rw [← List.append_assoc, ← h3] at h4
  exact h4
theorem rt_ext (most : Int) (h0 : 0 ≤ most) (hm : most ≤ 60000) : Ext fun x => rt x most := by
  intro s z h
  have h3 := (rt_took (s, false) most h).2
  simp only at h3
  have h4 := rt_app (rt (s, false) most).1 ((rt (s, false) most).2.1 ++ z) most (rt_len _ _ h0) hm
  rw [← List.append_assoc, ← h3] at h4
  exact h4
theorem rf_ext : Ext rf := by
  intro s z h
  have h3 := (rf_took (s, false) h).2
  simp only at h3
  have h4 := rf_app (rf (s, false)).1 ((rf (s, false)).2.1 ++ z)
  have e : fb (rf (s, false)).1 :: ((rf (s, false)).2.1 ++ z) = s ++ z := by
    conv => rhs; rw [h3]
    simp
  rw [e] at h4
  exact h4

structure okW (x : WatT) : Prop where
  s1 : 1 ≤ x.session
  s2 : x.session ≤ 281474976710655
  pl : x.path.length ≤ 60
  ck : checkF x.path = 0
structure okE (x : EvT) : Prop where
  s1 : 0 ≤ x.session
  s2 : x.session ≤ 281474976710655
  n1 : 0 ≤ x.no
  n2 : x.no ≤ 281474976710655
  pl : x.path.length ≤ 60
  w1 : 0 ≤ x.what
  w2 : x.what ≤ 4
  t1 : 0 ≤ x.when_
  t2 : x.when_ ≤ 281474976710655
def okZ (p : Int × Int) : Prop := 1 ≤ p.1 ∧ p.1 ≤ 281474976710655 ∧ 0 ≤ p.2 ∧ p.2 ≤ 281474976710655
structure GoodW (B : BookT) : Prop where
  ws : SortedW B.ws
  wl : B.ws.length ≤ 40
  wk : ∀ x ∈ B.ws, okW x
  el : B.es.length ≤ 1024
  ek : ∀ x ∈ B.es, okE x
  nl : B.nos.length ≤ 1024
  nd : (keys B.nos).Nodup
  nk : ∀ p ∈ B.nos, okZ p
theorem watR_app {x : WatT} (h : okW x) (z : List UInt8) : watR (watB x ++ z, false) = (x, (z, false)) := by
  obtain ⟨s, p, k, o⟩ := x
  obtain ⟨h1, h2, h3, h4⟩ := h
  simp only at h1 h2 h3 h4
  have e : watB ⟨s, p, k, o⟩ ++ z = num6 s ++ (txt p ++ (fb k :: (fb o :: z))) := by simp [watB, nums, txts, flags]
  rw [e]
  unfold watR
  rw [rn_app s _ _ (by omega) h2 (by omega)]
  simp only
  rw [rt_app p _ 60 (by omega) (by omega)]
  simp only
  rw [rf_app]
  simp only
  rw [rf_app]
theorem evR_app {x : EvT} (h : okE x) (z : List UInt8) : evR (evB x ++ z, false) = (x, (z, false)) := by
  obtain ⟨s, n, p, wh, wn⟩ := x
  obtain ⟨h1, h2, h3, h4, h5, h6, h7, h8, h9⟩ := h
  simp only at h1 h2 h3 h4 h5 h6 h7 h8 h9
  have e : evB ⟨s, n, p, wh, wn⟩ ++ z = num6 s ++ (num6 n ++ (txt p ++ (num6 wh ++ (num6 wn ++ z)))) := by simp [evB, nums, txts]
  rw [e]
  unfold evR
  rw [rn_app s _ _ h1 h2 (by omega)]
  simp only
  rw [rn_app n _ _ h3 h4 (by omega)]
  simp only
  rw [rt_app p _ 60 (by omega) (by omega)]
  simp only
  rw [rn_app wh _ _ h6 h7 (by omega)]
  simp only
  rw [rn_app wn _ _ h8 h9 (by omega)]
theorem noR_app {p : Int × Int} (h : okZ p) (z : List UInt8) : noR (nosB p ++ z, false) = (p, (z, false)) := by
  obtain ⟨k, v⟩ := p
  obtain ⟨h1, h2, h3, h4⟩ := h
  simp only at h1 h2 h3 h4
  have e : nosB (k, v) ++ z = num6 k ++ (num6 v ++ z) := by simp [nosB, nums]
  rw [e]
  unfold noR
  rw [rn_app k _ _ (by omega) h2 (by omega)]
  simp only
  rw [rn_app v _ _ h3 h4 (by omega)]

def ad (z : List UInt8) (x : RS) : RS := (x.1 ++ z, x.2)
theorem Ext.ad {α : Type} {f : RS → α × RS} (h : Ext f) {x : RS} (z : List UInt8) (hx : x.2 = false) (hf : (f x).2.2 = false) : f (Go.Proofs.YtanlobdidjednaaGreatDoor.ad z x) = ((f x).1, Go.Proofs.YtanlobdidjednaaGreatDoor.ad z (f x).2) := by
  obtain ⟨s, b⟩ := x
  simp only at hx
  subst hx
  have := h s z hf
  unfold Go.Proofs.YtanlobdidjednaaGreatDoor.ad
  rw [this, hf]
theorem watR_ad {x : RS} (z : List UInt8) (h : (watR x).2.2 = false) : watR (ad z x) = ((watR x).1, ad z (watR x).2) := by
  unfold watR at h ⊢
  simp only at h ⊢
  have h3 := (rf_took _ h).1
  have h2 := (rf_took _ h3).1
  have h1 := (rt_took _ _ h2).1
  have h0 := (rn_took _ _ h1).1
  rw [(rn_ext 281474976710655 (by decide) (by decide)).ad z h0 h1, (rt_ext 60 (by decide) (by decide)).ad z h1 h2, rf_ext.ad z h2 h3, rf_ext.ad z h3 h]
theorem evR_ad {x : RS} (z : List UInt8) (h : (evR x).2.2 = false) : evR (ad z x) = ((evR x).1, ad z (evR x).2) := by
  unfold evR at h ⊢
  simp only at h ⊢
  have h4 := (rn_took _ _ h).1
  have h3 := (rn_took _ _ h4).1
  have h2 := (rt_took _ _ h3).1
  have h1 := (rn_took _ _ h2).1
  have h0 := (rn_took _ _ h1).1
  rw [(rn_ext 281474976710655 (by decide) (by decide)).ad z h0 h1, (rn_ext 281474976710655 (by decide) (by decide)).ad z h1 h2, (rt_ext 60 (by decide) (by decide)).ad z h2 h3, (rn_ext 4 (by decide) (by decide)).ad z h3 h4, (rn_ext 281474976710655 (by decide) (by decide)).ad z h4 h]
theorem noR_ad {x : RS} (z : List UInt8) (h : (noR x).2.2 = false) : noR (ad z x) = ((noR x).1, ad z (noR x).2) := by
  unfold noR at h ⊢
  simp only at h ⊢
  have h1 := (rn_took _ _ h).1
  have h0 := (rn_took _ _ h1).1
  rw [(rn_ext 281474976710655 (by decide) (by decide)).ad z h0 h1, (rn_ext 281474976710655 (by decide) (by decide)).ad z h1 h]
theorem wsR_ad {x : RS} (z : List UInt8) (k : Nat) (h : (wsR x k).2.2 = false) : wsR (ad z x) k = ((wsR x k).1, ad z (wsR x k).2) := by
  induction k with
  | zero => rfl
  | succ k ih =>
    simp only [wsR] at h ⊢
    split at h
    · simp [fl] at h
    · rename_i hb
      rw [ih (watR_took _ h).1]
      simp only
      rw [watR_ad z h]
      simp only
      rw [if_neg hb, if_neg hb]
theorem esR_ad {x : RS} (z : List UInt8) (k : Nat) (h : (esR x k).2.2 = false) : esR (ad z x) k = ((esR x k).1, ad z (esR x k).2) := by
  induction k with
  | zero => rfl
  | succ k ih =>
    simp only [esR] at h ⊢
    rw [ih (evR_took _ h).1]
    simp only
    rw [evR_ad z h]
theorem nosR_ad {x : RS} (z : List UInt8) (k : Nat) (h : (nosR x k).2.2.2 = false) : nosR (ad z x) k = ((nosR x k).1, (nosR x k).2.1, ad z (nosR x k).2.2) := by
  induction k with
  | zero => rfl
  | succ k ih =>
    simp only [nosR] at h ⊢
    split at h
    · simp [fl] at h
    · rename_i hb
      rw [ih (noR_took _ h).1]
      simp only
      rw [noR_ad z h]
      simp only
      rw [if_neg hb, if_neg hb]
theorem wsP_ad {x : RS} (z : List UInt8) (h : (wsP x).2.2 = false) : wsP (ad z x) = ((wsP x).1, ad z (wsP x).2) := by
  unfold wsP at h ⊢
  have h1 := (wsR_took _ _ h).1
  have h0 := (rn_took _ _ h1).1
  rw [(rn_ext 40 (by decide) (by decide)).ad z h0 h1]
  exact wsR_ad z _ h
theorem esP_ad {x : RS} (z : List UInt8) (h : (esP x).2.2 = false) : esP (ad z x) = ((esP x).1, ad z (esP x).2) := by
  unfold esP at h ⊢
  have h1 := (esR_took _ _ h).1
  have h0 := (rn_took _ _ h1).1
  rw [(rn_ext 1024 (by decide) (by decide)).ad z h0 h1]
  exact esR_ad z _ h
theorem nosP_ad {x : RS} (z : List UInt8) (h : (nosP x).2.2 = false) : nosP (ad z x) = ((nosP x).1, ad z (nosP x).2) := by
  unfold nosP at h ⊢
  simp only at h
  have h1 := (nosR_good _ _ h).2.2.1
  have h0 := (rn_took _ _ h1).1
  rw [(rn_ext 1024 (by decide) (by decide)).ad z h0 h1]
  simp only
  rw [nosR_ad z _ h]
theorem readB_ad {x : RS} (z : List UInt8) (h : (readB x).2.2 = false) : readB (ad z x) = ((readB x).1, ad z (readB x).2) := by
  unfold readB at h ⊢
  simp only at h
  have h2 := (nosP_took _ h).1
  have h1 := (esP_took _ h2).1
  rw [wsP_ad z h1]
  simp only
  rw [esP_ad z h2]
  simp only
  rw [nosP_ad z h]
  simp only [ad]
  rfl

theorem take_goodW {ws : List WatT} (h : SortedW ws) (hk : ∀ x ∈ ws, okW x) {k : Nat} (hl : k < ws.length) : ¬ badW (ws.take k) ws[k] = true := by
  have h0 := hk _ (List.getElem_mem hl)
  have hlast : lastBad (ws.take k) ws[k] = false := by
    unfold lastBad
    rw [List.getLast?_take]
    split
    · rename_i l he
      split at he
      · cases he
      · rename_i h1
        have hk1 : k - 1 < ws.length := by omega
        rw [List.getElem?_eq_getElem hk1] at he
        simp only [Option.some_or, Option.some.injEq] at he
        subst he
        have := (List.pairwise_iff_getElem.1 h) (k - 1) k hk1 hl (by omega)
        rw [decide_eq_false_iff_not]
        omega
    · rfl
  unfold badW
  rw [hlast, h0.ck]
  have := h0.s1
  simp
  omega
theorem wsR_app {ws : List WatT} (h : SortedW ws) (hk : ∀ x ∈ ws, okW x) (z : List UInt8) : ∀ k ≤ ws.length, wsR (ws.flatMap watB ++ z, false) k = (ws.take k, ((ws.drop k).flatMap watB ++ z, false)) := by
  intro k
  induction k with
  | zero => intro _; simp [wsR]
  | succ k ih =>
    intro hl
    have hd : ws.drop k = ws[k] :: ws.drop (k + 1) := List.drop_eq_getElem_cons (by omega)
    simp only [wsR, ih (by omega)]
    rw [hd, List.flatMap_cons, List.append_assoc, watR_app (hk _ (List.getElem_mem (by omega)))]
    simp only
    rw [if_neg (take_goodW h hk (by omega)), List.take_succ_eq_append_getElem (by omega)]
theorem esR_app {es : List EvT} (hk : ∀ x ∈ es, okE x) (z : List UInt8) : ∀ k ≤ es.length, esR (es.flatMap evB ++ z, false) k = (es.take k, ((es.drop k).flatMap evB ++ z, false)) := by
  intro k
  induction k with
  | zero => intro _; simp [esR]
  | succ k ih =>
    intro hl
    have hd : es.drop k = es[k] :: es.drop (k + 1) := List.drop_eq_getElem_cons (by omega)
    simp only [esR, ih (by omega)]
    rw [hd, List.flatMap_cons, List.append_assoc, evR_app (hk _ (List.getElem_mem (by omega)))]
    simp only
    rw [List.take_succ_eq_append_getElem (by omega)]

theorem keys_normZ (l : List (Int × Int)) : keys (normZ l) = sortZ (keys l) := by
  unfold normZ keys
  rw [List.map_map]
  exact List.map_id _
theorem sortZ_lt {l : List Int} (h : l.Nodup) : (sortZ l).Pairwise (· < ·) := by
  have hs : (sortZ l).Pairwise fun x y => decide (x ≤ y) = true := by
    unfold sortZ
    refine List.pairwise_mergeSort ?_ ?_ l
    · intro a b c h1 h2
      simp only [decide_eq_true_eq] at *
      omega
    · intro a b
      simp only [Bool.or_eq_true, decide_eq_true_eq]
      omega
  have hn : (sortZ l).Pairwise (· ≠ ·) := (sortZ_perm l).nodup_iff.2 h
  refine (hs.and hn).imp ?_
  rintro a b ⟨h1, h2⟩
  simp only [decide_eq_true_eq] at h1
  omega
theorem mget_normZ {l : List (Int × Int)} (h : (keys l).Nodup) (k : Int) : mget (normZ l) k = mget l k := by
  have hn : (keys (normZ l)).Nodup := by rw [keys_normZ]; exact (sortZ_perm _).nodup_iff.2 h
  cases hm : mget l k with
  | none =>
    rw [mget_none] at hm ⊢
    rw [keys_normZ, (sortZ_perm _).mem_iff]
    exact hm
  | some v =>
    refine mget_some hn ?_
    unfold normZ
    rw [List.mem_map]
    refine ⟨k, (sortZ_perm _).mem_iff.2 (mem_keys_mget.2 ⟨v, hm⟩), ?_⟩
    rw [hm]
    rfl
def lastZ (l : List (Int × Int)) : Int := (l.getLast?.map (·.1)).getD 0
theorem take_fresh {N : List (Int × Int)} (ha : (keys N).Pairwise (· < ·)) (hk : ∀ p ∈ N, okZ p) {k : Nat} (hl : k < N.length) : ¬ N[k].1 ≤ lastZ (N.take k) ∧ N[k].1 ∉ keys (N.take k) := by
  have ha2 : N.Pairwise fun a b => a.1 < b.1 := List.pairwise_map.1 ha
  refine ⟨?_, ?_⟩
  · unfold lastZ
    rw [List.getLast?_take]
    split
    · have := (hk _ (List.getElem_mem hl)).1
      simp
      omega
    · have hk1 : k - 1 < N.length := by omega
      rw [List.getElem?_eq_getElem hk1]
      have := (List.pairwise_iff_getElem.1 ha2) (k - 1) k hk1 hl (by omega)
      simp
      omega
  · intro hm
    obtain ⟨p, hp, e⟩ := List.mem_map.1 hm
    obtain ⟨i, hi, rfl⟩ := List.mem_take_iff_getElem.1 hp
    have := (List.pairwise_iff_getElem.1 ha2) i k (by omega) hl (by omega)
    omega
theorem nosR_app {N : List (Int × Int)} (ha : (keys N).Pairwise (· < ·)) (hk : ∀ p ∈ N, okZ p) (z : List UInt8) : ∀ k ≤ N.length, nosR (N.flatMap nosB ++ z, false) k = (N.take k, lastZ (N.take k), ((N.drop k).flatMap nosB ++ z, false)) := by
  intro k
  induction k with
  | zero => intro _; simp [nosR, lastZ]
  | succ k ih =>
    intro hl
    have hd : N.drop k = N[k] :: N.drop (k + 1) := List.drop_eq_getElem_cons (by omega)
    obtain ⟨f1, f2⟩ := take_fresh ha hk (k := k) (by omega)
    simp only [nosR, ih (by omega)]
    rw [hd, List.flatMap_cons, List.append_assoc, noR_app (hk _ (List.getElem_mem (by omega)))]
    simp only
    have hput : mput (N.take k) N[k].1 N[k].2 = N.take k ++ [N[k]] := by
      unfold mput
      rw [mget_none.2 f2]
      rfl
    rw [if_neg f1, hput, List.take_succ_eq_append_getElem (by omega)]
    unfold lastZ
    rw [List.getLast?_concat]
    rfl
theorem GoodW.norm {B : BookT} (h : GoodW B) : ∀ p ∈ normZ B.nos, okZ p := by
  intro p hp
  have hn : (keys (normZ B.nos)).Nodup := by rw [keys_normZ]; exact (sortZ_perm _).nodup_iff.2 h.nd
  have h1 := mget_some hn (show (p.1, p.2) ∈ normZ B.nos from hp)
  rw [mget_normZ h.nd] at h1
  exact h.nk _ (mget_mem h1)
theorem readB_tail {B : BookT} (h : GoodW B) (z : List UInt8) : readB (layW B ++ z, false) = (⟨B.ws, B.es, normZ B.nos⟩, (z, false)) := by
  have e : layW B ++ z = num6 (B.ws.length : Int) ++ (B.ws.flatMap watB ++ (num6 (B.es.length : Int) ++ (B.es.flatMap evB ++ (num6 ((normZ B.nos).length : Int) ++ ((normZ B.nos).flatMap nosB ++ z))))) := by
    rw [normZ_length]; simp [layW, nums]
  have h1 := h.wl
  have h2 := h.el
  have h3 := h.nl
  have h4 := normZ_length B.nos
  have ha : (keys (normZ B.nos)).Pairwise (· < ·) := by rw [keys_normZ]; exact sortZ_lt h.nd
  have e1 : ∀ y, wsP (num6 (B.ws.length : Int) ++ (B.ws.flatMap watB ++ y), false) = (B.ws, (y, false)) := fun y => by
    unfold wsP
    rw [rn_app _ 40 _ (by omega) (by omega) (by omega)]
    simp only [Int.toNat_natCast]
    rw [wsR_app h.ws h.wk y _ (Nat.le_refl _)]
    simp
  have e2 : ∀ y, esP (num6 (B.es.length : Int) ++ (B.es.flatMap evB ++ y), false) = (B.es, (y, false)) := fun y => by
    unfold esP
    rw [rn_app _ 1024 _ (by omega) (by omega) (by omega)]
    simp only [Int.toNat_natCast]
    rw [esR_app h.ek y _ (Nat.le_refl _)]
    simp
  have e3 : ∀ y, nosP (num6 ((normZ B.nos).length : Int) ++ ((normZ B.nos).flatMap nosB ++ y), false) = (normZ B.nos, (y, false)) := fun y => by
    unfold nosP
    rw [rn_app _ 1024 _ (by omega) (by omega) (by omega)]
    simp only [Int.toNat_natCast]
    rw [nosR_app ha h.norm y _ (Nat.le_refl _)]
    simp
  rw [e]
  unfold readB
  rw [e1]
  simp only
  rw [e2]
  simp only
  rw [e3]
  simp
theorem readB_cut {B : BookT} (h : GoodW B) (r : Nat) (hr : r < (layW B).length) : (readB ((layW B).take r, false)).2.2 = true := by
  cases hf : (readB ((layW B).take r, false)).2.2 with
  | true => rfl
  | false =>
    exfalso
    have h1 := readB_ad ((layW B).drop r) hf
    have h2 := readB_tail h []
    rw [List.append_nil] at h2
    simp only [ad, List.take_append_drop] at h1
    rw [h2] at h1
    simp only [Prod.mk.injEq] at h1
    have h3 := h1.2.1
    have h4 := congrArg List.length h3
    simp at h4
    omega
theorem layW_pos (B : BookT) : 6 ≤ (layW B).length := by
  unfold layW
  simp only [List.length_append, nums_length]
  simp
  omega

end Go.Proofs.YtanlobdidjednaaGreatDoor
