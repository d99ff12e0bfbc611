/- The statements' own model of a table of sessions: entries in order; at, seen. No condition. -/
import Derived.Test.YtcnehacblodiaaaSessR
import Derived.Test.YtcnehacblodiaaaActs
set_option linter.unusedVariables false
namespace Go.Proofs.Ytcnehacblodiaaa
open Go.RowKit

def entC (p : Int × Ses) : List Value := [.int .i64 p.1, .int .i64 p.2.1, .string (S p.2.2)]
theorem flatN_at {α : Type} (f : α → List Value) (n : Nat) (hn : ∀ a, (f a).length = n) (l : List α) (k : Nat) (a : α) (h : l[k]? = some a) (j : Nat) (u : Value) (hj : (f a)[j]? = some u) : (l.flatMap f)[k * n + j]? = some u := by
  induction l generalizing k with
  | nil => simp at h
  | cons b r ih =>
    cases k with
    | zero =>
      simp only [List.getElem?_cons_zero, Option.some.injEq] at h
      subst h
      rw [List.flatMap_cons, Nat.zero_mul, Nat.zero_add, List.getElem?_append_left (List.getElem?_eq_some_iff.1 hj).1]
      exact hj
    | succ k =>
      simp only [List.getElem?_cons_succ] at h
      have := ih k h
      rw [List.flatMap_cons, List.getElem?_append_right (by rw [hn, Nat.succ_mul]; omega), ← this]
      congr 1
      rw [hn, Nat.succ_mul]
      omega
abbrev EntSrc (w : World) (A : Option Addr) (l : Tab) : Prop := Src w 3 A l.length (l.flatMap entC)
theorem rowE_at {w : World} {A : Option Addr} {l : Tab} (h : EntSrc w A l) {k : Nat} (hk : k < l.length) :
    ∃ ad p, A = some ad ∧ l[k]? = some p ∧ w.cell? (ad.add (k * 3)) = some (.int .i64 p.1) ∧ w.cell? ⟨(ad.add (k * 3)).block, (ad.add (k * 3)).off + 1, none⟩ = some (.int .i64 p.2.1) ∧ w.cell? ⟨(ad.add (k * 3)).block, (ad.add (k * 3)).off + 2, none⟩ = some (.string (S p.2.2)) := by
  obtain ⟨ad, e, hc⟩ := h.2 (by omega)
  have ha := List.getElem?_eq_getElem hk
  have hf := flatN_at entC 3 (fun _ => rfl) l k _ ha
  refine ⟨ad, l[k], e, ha, hc _ _ (hf 0 _ rfl), ?_, ?_⟩
  · rw [← add_succ, add_add]; exact hc _ _ (hf 1 _ rfl)
  · rw [← add_succ, add_add]; exact hc _ _ (hf 2 _ rfl)

/-- the model in memory -/
abbrev mboxA (mp : Nat) (l : Tab) (A : Option Addr) (cap : Nat) : Asn := cellsA mp 36 #[.slice A l.length cap]
abbrev mrowA (l : Tab) (A : Option Addr) (cap : Nat) : Asn := rowA 54 3 (.slice A l.length cap) l.length (l.flatMap entC)

/-- where one is -/
def atF (l : Tab) (id : Int) : Int := match l.findIdx? fun p => decide (p.1 = id) with
  | some i => i
  | none => -1
theorem atF_none {l : Tab} {id : Int} (h : id ∉ keys l) : atF l id = -1 := by
  have : l.findIdx? (fun p => decide (p.1 = id)) = none := by
    rw [List.findIdx?_eq_none_iff]
    intro p hp
    simp only [decide_eq_false_iff_not]
    rintro rfl
    exact h (List.mem_map.2 ⟨p, hp, rfl⟩)
  simp [atF, this]
theorem atF_at {l : Tab} {id : Int} {k : Nat} {p : Int × Ses} (h1 : l[k]? = some p) (h2 : p.1 = id) (h3 : ∀ q ∈ l.take k, q.1 ≠ id) : atF l id = k := by
  have : l.findIdx? (fun p => decide (p.1 = id)) = some k := by
    rw [List.findIdx?_eq_some_iff_getElem]
    obtain ⟨hk, rfl⟩ := List.getElem?_eq_some_iff.1 h1
    refine ⟨hk, by simpa using h2, fun j hj => ?_⟩
    have := h3 l[j] (by rw [List.mem_take_iff_getElem]; exact ⟨j, by omega, rfl⟩)
    simpa using this
  simp [atF, this]
theorem atF_some {l : Tab} {id : Int} (h : id ∈ keys l) : ∃ (k : Nat) (s : Ses), atF l id = k ∧ l[k]? = some (id, s) ∧ mget l id = some s ∧ k < l.length := by
  obtain ⟨s, hs⟩ := mem_keys_mget.1 h
  unfold mget at hs
  simp only [Option.map_eq_some_iff] at hs
  obtain ⟨p, hp, rfl⟩ := hs
  rw [List.find?_eq_some_iff_getElem] at hp
  obtain ⟨hd, i, hi, rfl, hne⟩ := hp
  simp only [decide_eq_true_eq] at hd
  have e : l[i] = (id, l[i].2) := by rw [← hd]
  refine ⟨i, l[i].2, ?_, ?_, ?_, hi⟩
  · refine atF_at (List.getElem?_eq_getElem hi) hd fun q hq => ?_
    rw [List.mem_take_iff_getElem] at hq
    obtain ⟨j, hj, rfl⟩ := hq
    have := hne j (by omega)
    simpa using this
  · rw [List.getElem?_eq_getElem hi, ← e]
  · simp only [mget, Option.map_eq_some_iff]
    exact ⟨l[i], by rw [List.find?_eq_some_iff_getElem]; exact ⟨by simpa using hd, i, hi, rfl, hne⟩, rfl⟩

section
variable {g w : World} {L : List Asn} {mp : Nat} {l : Tab} {A : Option Addr} {cap : Nat}
set_option maxRecDepth 100000 in
theorem at_model (S : Sat g w (mboxA mp l A cap :: mrowA l A cap :: L)) (id : Int) (hl : l.length ≤ 16) :
    Calls Try.prog 16 #[ptr mp, .int .i64 id] w fun e w' => e = .returned (.int .i64 (atF l id)) ∧ Keeps (fun _ => False) w w' := by
  have hsrc : EntSrc w A l := S.p1.srcOf
  have c0 : w.cell? ⟨mp, 0, none⟩ = some (.slice A l.length cap) := S.cell 0 _ rfl
  clear S
  go_enter Try.func16, Try.ntmps16
  go_wp2_with fail
  clear c0
  go_loopw [12] (fun i wr => ∃ k : Nat, k ≤ l.length ∧ i = .int .i64 k ∧ (∀ q ∈ l.take k, q.1 ≠ id) ∧ Keeps (fun _ => False) w wr) (fun i _ => l.length - (RowKit.intOf i).toNat)
  case atStart => exact ⟨0, by omega, rfl, by simp, Keeps.refl _ _⟩
  case round =>
    obtain ⟨k, hk, rfl, hall, hK⟩ := hrel
    have HA := hide hall
    clear hall
    by_cases hlt : k < l.length
    · obtain ⟨ad, p, rfl, hx, c0, c1, c2⟩ := rowE_at (hsrc.keep hK (fun _ _ h => h)) hlt
      have HX := hide hx
      clear hx
      obtain ⟨pid, preq, pans⟩ := p
      simp only at c0 c1 c2
      by_cases hp : pid = id
      · subst hp
        have he := atF_at HX.out rfl HA.out
        have HE := hide he
        clear he
        go_wp2_with fail
        go_ret
        exact ⟨by rw [HE.out]; rfl, hK.alloc _⟩
      · have hpb : (pid == id) = false := by simpa using hp
        have HP := hide hp
        clear hp
        go_wp2_with fail
        go_roundw
        case rel =>
          refine ⟨k + 1, by omega, by go_num, ?_, hK.alloc _⟩
          obtain ⟨hk', e1⟩ := List.getElem?_eq_some_iff.1 HX.out
          rw [List.take_succ_eq_append_getElem hk', e1]
          intro q hq
          rcases List.mem_append.1 hq with hq | hq
          · exact HA.out q hq
          · simp at hq; subst hq; exact HP.out
        case measure => simp [RowKit.intOf]; omega
    · obtain rfl : k = l.length := by omega
      rw [List.take_length] at HA
      have he : atF l id = -1 := atF_none (fun hm => by
        obtain ⟨q, hq, e⟩ := List.mem_map.1 hm
        exact HA.out q hq e)
      have HE := hide he
      clear he
      go_wp2_with fail
      go_ret
      exact ⟨by rw [HE.out]; rfl, hK⟩

set_option maxRecDepth 100000 in
set_option maxHeartbeats 1000000 in
theorem seen_model (S : Sat g w (mboxA mp l A cap :: mrowA l A cap :: L)) (id req : Int) (hl : l.length ≤ 16) :
    Calls Try.prog 29 #[ptr mp, .int .i64 id, .int .i64 req] w fun e w' => e = .returned (seenV (seenF l id req)) ∧ Keeps (fun _ => False) w w' := by
  have hat := at_model S id hl
  by_cases hid : id ∈ keys l
  · obtain ⟨k, ⟨r, a⟩, hk, hx, hg, hlt⟩ := atF_some hid
    rw [hk] at hat
    have HG := hide hg
    have HS := hide S
    clear hid hk hg S
    have HR : Hid (∀ w1, Keeps (fun _ => False) w w1 → ∃ ad, A = some ad ∧ w1.cell? ⟨mp, 0, none⟩ = some (.slice A l.length cap) ∧ w1.cell? ⟨(ad.add (k * 3)).block, (ad.add (k * 3)).off + 1, none⟩ = some (.int .i64 r) ∧ w1.cell? ⟨(ad.add (k * 3)).block, (ad.add (k * 3)).off + 2, none⟩ = some (.string (Go.Proofs.Ytcnehacblodiaaa.S a))) := by
      intro w1 hk1
      have S1 := HS.out.keep hk1
      obtain ⟨ad, p, e1, hx1, c0, c1, c2⟩ := rowE_at (S1.p1.srcOf) hlt
      rw [hx] at hx1
      injection hx1 with hx1
      subst hx1
      exact ⟨ad, e1, S1.cell 0 _ rfl, c1, c2⟩
    clear hx
    by_cases h1 : req < 1
    · have e : seenF l id req = ([], false, 1) := by simp only [seenF, HG.out, h1, true_or, if_true]
      rw [e]
      clear e
      go_enter Try.func29, Try.ntmps29
      go_wp2_with fail
      refine hat.mono ?_
      rintro e w1 ⟨rfl, hk1⟩
      go_wp2_with fail
      go_ret3
      exact ⟨rfl, hk1⟩
    · by_cases h2 : 281474976710655 < req
      · have e : seenF l id req = ([], false, 1) := by simp only [seenF, HG.out, h2, or_true, if_true]
        rw [e]
        clear e
        go_enter Try.func29, Try.ntmps29
        go_wp2_with fail
        refine hat.mono ?_
        rintro e w1 ⟨rfl, hk1⟩
        go_wp2_with fail
        go_ret3
        exact ⟨rfl, hk1⟩
      · have hR : seenF l id req = if req < r then ([], false, 18) else if req = r then (a, true, 0) else ([], false, 0) := by
          simp only [seenF, HG.out]
          rw [if_neg (by omega)]
        generalize seenF l id req = R at hR ⊢
        have HRR := hide hR
        clear hR
        by_cases h5 : req = r
        · subst h5
          have e : R = (a, true, 0) := by rw [HRR.out, if_neg (by omega), if_pos rfl]
          subst e
          go_enter Try.func29, Try.ntmps29
          go_wp2_with fail
          refine hat.mono ?_
          rintro e w1 ⟨rfl, hk1⟩
          obtain ⟨ad, rfl, c0, c1, c2⟩ := HR.out w1 hk1
          go_wp2_with fail
          go_ret3
          exact ⟨rfl, hk1⟩
        · have hne : (req == r) = false := by simpa using h5
          by_cases h6 : req < r
          · have e : R = ([], false, 18) := by rw [HRR.out, if_pos h6]
            subst e
            go_enter Try.func29, Try.ntmps29
            go_wp2_with fail
            refine hat.mono ?_
            rintro e w1 ⟨rfl, hk1⟩
            obtain ⟨ad, rfl, c0, c1, c2⟩ := HR.out w1 hk1
            go_wp2_with fail
            go_ret3
            exact ⟨rfl, hk1⟩
          · have e : R = ([], false, 0) := by rw [HRR.out, if_neg h6, if_neg h5]
            subst e
            go_enter Try.func29, Try.ntmps29
            go_wp2_with fail
            refine hat.mono ?_
            rintro e w1 ⟨rfl, hk1⟩
            obtain ⟨ad, rfl, c0, c1, c2⟩ := HR.out w1 hk1
            go_wp2_with fail
            go_ret3
            exact ⟨rfl, hk1⟩
  · rw [atF_none hid] at hat
    have e : seenF l id req = ([], false, 17) := by simp only [seenF, mget_none.2 hid]
    rw [e]
    clear e hid S
    go_enter Try.func29, Try.ntmps29
    go_wp2_with fail
    refine hat.mono ?_
    rintro e w1 ⟨rfl, hk1⟩
    go_wp2_with fail
    go_ret3
    exact ⟨rfl, hk1⟩
end

end Go.Proofs.Ytcnehacblodiaaa
