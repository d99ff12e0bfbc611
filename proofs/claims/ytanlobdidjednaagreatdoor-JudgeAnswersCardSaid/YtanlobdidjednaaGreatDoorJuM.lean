/- JudgeCommits, walked. No condition. -/
import Derived.Test.YtanlobdidjednaaGreatDoorJuF
set_option linter.unusedVariables false
set_option linter.unusedSimpArgs false
namespace Go.Proofs.YtanlobdidjednaaGreatDoor
open Go.RowKit

theorem keys_in {α : Type} : ∀ (n : Nat) {m : List (Int × α)}, (keys m).Nodup → (∀ k ∈ keys m, ∃ i : Nat, k = (i : Int) ∧ 1 ≤ i ∧ i ≤ n) → m.length ≤ n := by
  intro n
  induction n with
  | zero =>
    intro m _ h
    cases m with
    | nil => simp
    | cons p r =>
      obtain ⟨i, _, h1, h2⟩ := h p.1 (by simp [keys])
      omega
  | succ n ih =>
    intro m hn h
    have h3 := ih (nodup_mdel hn ((n + 1 : Nat) : Int)) (fun k hk => by
      obtain ⟨h4, h5⟩ := mem_keys_mdel.1 hk
      obtain ⟨i, rfl, h1, h2⟩ := h k h4
      exact ⟨i, rfl, h1, by omega⟩)
    by_cases hk : ((n + 1 : Nat) : Int) ∈ keys m
    · have := length_mdel hn _ hk
      omega
    · rw [mdel_none hk] at h3
      omega
/-- which entries were told -/
structure SeenOk (T : List (List UInt8)) (sn : List Bool) (m : JTx) : Prop where
  len : sn.length = T.length + 2
  zero : sn[0]? = some false
  last : sn[T.length + 1]? = some false
  got : ∀ i : Nat, i < T.length → sn[i + 1]? = some true → mget m (((i + 1 : Nat)) : Int) = T[i]?
  lack : ∀ i : Nat, sn[i]? = some false → mget m (i : Int) = none
  dom : ∀ k ∈ keys m, ∃ i : Nat, k = (i : Int) ∧ 1 ≤ i ∧ i ≤ T.length
theorem SeenOk.init (T : List (List UInt8)) : SeenOk T (List.replicate (T.length + 2) false) [] :=
  ⟨by simp, by simp, by simp, fun i hi h => by simp [List.getElem?_replicate] at h, fun i h => rfl, fun k hk => by simp [keys] at hk⟩
theorem SeenOk.put {T : List (List UInt8)} {sn : List Bool} {m : JTx} (h : SeenOk T sn m) {q : Nat} {t : List UInt8} (ht : T[q]? = some t) {m2 : JTx}
    (hm : (mget m (((q + 1 : Nat)) : Int) = none ∧ m2 = mput m (((q + 1 : Nat)) : Int) t) ∨ m2 = m ∧ (mget m (((q + 1 : Nat)) : Int)).isSome = true) : SeenOk T (sn.set (q + 1) true) m2 := by
  have hq : q < T.length := (List.getElem?_eq_some_iff.1 ht).1
  have hl := h.len
  have hqs : sn[q + 1]? = some true ∨ sn[q + 1]? = some false := by
    rw [List.getElem?_eq_getElem (by omega)]
    cases sn[q + 1] <;> simp
  have hget : ∀ i : Nat, mget m2 (i : Int) = if i = q + 1 then some t else mget m (i : Int) := by
    intro i
    rcases hm with ⟨h1, rfl⟩ | ⟨rfl, h1⟩
    · rw [mget_mput]
      by_cases e : i = q + 1
      · subst e; simp
      · rw [if_neg (by omega), if_neg e]
    · by_cases e : i = q + 1
      · subst e
        rw [if_pos rfl]
        rcases hqs with h2 | h2
        · rw [h.got q hq h2, ht]
        · rw [h.lack _ h2] at h1; cases h1
      · rw [if_neg e]
  refine ⟨by simp [hl], ?_, ?_, ?_, ?_, ?_⟩
  · rw [List.getElem?_set_ne (by omega)]; exact h.zero
  · rw [List.getElem?_set_ne (by omega)]; exact h.last
  · intro i hi hs
    rw [hget]
    by_cases e : i = q
    · subst e; rw [if_pos rfl, ht]
    · rw [if_neg (by omega)]
      rw [List.getElem?_set_ne (by omega)] at hs
      exact h.got i hi hs
  · intro i hs
    rw [hget]
    by_cases e : i = q + 1
    · subst e
      rw [List.getElem?_set_self (by omega)] at hs
      cases hs
    · rw [if_neg e]
      rw [List.getElem?_set_ne (by omega)] at hs
      exact h.lack i hs
  · intro k hk
    rcases hm with ⟨h1, rfl⟩ | ⟨rfl, h1⟩
    · rw [keys_mput] at hk
      split at hk
      · exact h.dom k hk
      · rcases List.mem_append.1 hk with hk | hk
        · exact h.dom k hk
        · simp only [List.mem_singleton] at hk
          exact ⟨q + 1, hk, by omega, by omega⟩
    · exact h.dom k hk
theorem SeenOk.ml {T : List (List UInt8)} {sn : List Bool} {m : JTx} (h : SeenOk T sn m) (hn : (keys m).Nodup) : m.length ≤ T.length := keys_in _ hn h.dom
theorem slBool : Sl Tryz.prog 136 4 1 1 (.bool false) := .mk' Tryz.underlying136 (by kernel_rfl) rfl (by decide)
theorem make_bools (w : World) (n : Nat) (hn : n ≤ 1000) : (Instr.makeSlice 136 (.int .i64 ((n : Int) + 2)) (.int .i64 ((n : Int) + 2))).run Tryz.prog w = .ok (.slice (some ⟨w.heap.size, 0, none⟩) (n + 2) (n + 2)) (w.alloc (.cells (Fs (List.replicate (n + 2) false)).toArray 4)) := by
  obtain ⟨i, hi, hz, hs, hb⟩ := slBool.info
  have h := run_make (P := Tryz.prog) w 136 4 i (.bool false) slBool.sl hi hz .i64 .i64 ((n : Int) + 2) ((n : Int) + 2) (by omega) (by omega) (by rw [hb]; omega) (by omega)
  rw [h]
  have e1 : ((n : Int) + 2).toNat = n + 2 := by omega
  rw [e1]
  have e2 : madeCells (Value.bool false).cells ((n + 2) * i.size) = (Fs (List.replicate (n + 2) false)).toArray := by
    apply Array.ext
    · simp [madeCells, Fs, hs]
    · intro j h1 h2
      simp [madeCells, Fs, Value.cells, Nat.mod_one]
  rw [e2]

theorem Fs_at {sn : List Bool} {i : Nat} {v : Bool} (h : sn[i]? = some v) : (Fs sn).toArray[i]? = some (.bool v) := by simp [Fs, h]
theorem Fs_set (sn : List Bool) (i : Nat) (v : Bool) : (Fs sn).toArray.setIfInBounds i (.bool v) = (Fs (sn.set i v)).toArray := by
  simp [Fs, List.map_set]
/-- an entry of the list is told -/
theorem commit_seen {W w : World} {L : List Asn} {b : Nat} {m : JTx} {ss : List StT} {T : List (List UInt8)} {sn : List Bool} (S0 : Sat W w (judgeA b m ss 0 0 :: L)) (hG : GL W) (hm : oldA W ∈ L) (hT : TabE W) (hJ : JOk m ss) (hfull : mget m (ss.length : Int) = none)
    (hs : SeenOk T sn m) (htl : ∀ t ∈ T, t.length ≤ 488) (hl : T.length ≤ 43) {q : Nat} {t : List UInt8} (ht : T[q]? = some t) :
    Calls Tryz.prog 8 #[ptr b, .int .i64 ((q : Int) + 1), .string (S t)] w fun e w' => ∃ m2 ss2, e = .returned (.bool true) ∧ JOk m2 ss2 ∧ mget m2 (ss2.length : Int) = none ∧ SeenOk T (sn.set (q + 1) true) m2 ∧ Sat W w' (judgeA b m2 ss2 0 0 :: L) := by
  have hml := hs.ml hJ.nd
  have h1 := htl t (List.mem_of_getElem? ht)
  have hq : q < T.length := (List.getElem?_eq_some_iff.1 ht).1
  have hql := hs.len
  refine (commit_j S0 hG hm hT hJ hfull ((q : Int) + 1) t (by omega) (by omega)).mono ?_
  rintro e w' ⟨m2, ss2, wr2, r, rfl, hJ2, hF2, hc, S2⟩
  have ec : (((q + 1 : Nat)) : Int) = (q : Int) + 1 := by omega
  rcases hc with ⟨h2, rfl, rfl, rfl⟩ | ⟨t', h2, rfl, rfl, rfl, rfl⟩
  · exact ⟨_, ss2, rfl, hJ2, hF2, hs.put ht (.inl ⟨by rw [ec]; exact h2, by rw [ec]⟩), S2⟩
  · have h3 : sn[q + 1]? = some true := by
      rw [List.getElem?_eq_getElem (by omega)]
      cases h4 : sn[q + 1] with
      | true => rfl
      | false =>
        have h5 := hs.lack (q + 1) (by rw [List.getElem?_eq_getElem (by omega), h4])
        rw [ec, h2] at h5
        cases h5
    have h6 := hs.got q hq h3
    rw [ec, h2, ht] at h6
    injection h6 with h6
    subst h6
    rw [if_pos rfl] at S2
    refine ⟨_, _, by simp, hJ2, hF2, hs.put ht (.inr ⟨rfl, by rw [ec, h2]; rfl⟩), S2⟩
/-- another text is told -/
theorem commit_other {W w : World} {L : List Asn} {b : Nat} {m : JTx} {ss : List StT} {T : List (List UInt8)} {sn : List Bool} (S0 : Sat W w (judgeA b m ss 0 0 :: L)) (hG : GL W) (hm : oldA W ∈ L) (hT : TabE W) (hJ : JOk m ss) (hfull : mget m (ss.length : Int) = none)
    (hs : SeenOk T sn m) (htl : ∀ t ∈ T, t.length ≤ 488) (hl : T.length ≤ 43) {q : Nat} {t : List UInt8} (ht : T[q]? = some t) {v : Bool} (hv : sn[q + 1]? = some v) :
    Calls Tryz.prog 8 #[ptr b, .int .i64 ((q : Int) + 1), .string (S (t ++ [120]))] w fun e w' => ∃ m2 ss2, e = .returned (.bool (!v)) ∧ Sat W w' (judgeA b m2 ss2 0 (if v = true then 6 else 0) :: L) := by
  have hml := hs.ml hJ.nd
  have h1 := htl t (List.mem_of_getElem? ht)
  have hq : q < T.length := (List.getElem?_eq_some_iff.1 ht).1
  refine (commit_j S0 hG hm hT hJ hfull ((q : Int) + 1) (t ++ [120]) (by simp; omega) (by omega)).mono ?_
  rintro e w' ⟨m2, ss2, wr2, r, rfl, hJ2, hF2, hc, S2⟩
  have ec : (((q + 1 : Nat)) : Int) = (q : Int) + 1 := by omega
  cases v with
  | false =>
    have h5 := hs.lack (q + 1) hv
    rw [ec] at h5
    rcases hc with ⟨h2, rfl, rfl, rfl⟩ | ⟨t', h2, -⟩
    · exact ⟨_, ss2, rfl, S2⟩
    · rw [h2] at h5; cases h5
  | true =>
    have h6 := hs.got q hq hv
    rw [ec, ht] at h6
    rcases hc with ⟨h2, -⟩ | ⟨t', h2, rfl, rfl, rfl, rfl⟩
    · rw [h2] at h6; cases h6
    · rw [h2] at h6
      injection h6 with h6
      subst h6
      rw [if_neg (by simp)] at S2
      exact ⟨_, _, by simp, S2⟩

end Go.Proofs.YtanlobdidjednaaGreatDoor
