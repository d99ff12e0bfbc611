/- JudgeCommits, walked. No condition. -/
import Derived.Test.YthgiamofndhehaaGreatDoorJuF
set_option linter.unusedVariables false
set_option linter.unusedSimpArgs false
namespace Go.Proofs.YthgiamofndhehaaGreatDoor
open Go.RowKit

theorem keys_in {α : Type} : ∀ (n : Nat) {m : List (Int × α)}, (keys m).Nodup → (∀ k ∈ keys m, ∃ i : Nat, k = (i : Int) ∧ 1 ≤ i ∧ i ≤ n) → m.length ≤ n := by
  intro n
  induction n with
  | zero =>
    intro m _ h
    cases m with
    | nil => simp
    | cons p r =>
      obtain ⟨i, _, h1, h2⟩ := h p.1 (by simp [keys])
      omega
  | succ n ih =>
    intro m hn h
    have h3 := ih (nodup_mdel hn ((n + 1 : Nat) : Int)) (fun k hk => by
      obtain ⟨h4, h5⟩ := mem_keys_mdel.1 hk
      obtain ⟨i, rfl, h1, h2⟩ := h k h4
      exact ⟨i, rfl, h1, by omega⟩)
    by_cases hk : ((n + 1 : Nat) : Int) ∈ keys m
    · have := length_mdel hn _ hk
      omega
    · rw [mdel_none hk] at h3
      omega
/-- which entries were told -/
structure SeenOk (T : List (List UInt8)) (sn : List Bool) (m : JTx) : Prop where
  len : sn.length = T.length + 2
  zero : sn[0]? = some false
  last : sn[T.length + 1]? = some false
  got : ∀ i : Nat, i < T.length → sn[i + 1]? = some true → mget m (((i + 1 : Nat)) : Int) = T[i]?
  lack : ∀ i : Nat, sn[i]? = some false → mget m (i : Int) = none
  dom : ∀ k ∈ keys m, ∃ i : Nat, k = (i : Int) ∧ 1 ≤ i ∧ i ≤ T.length
theorem SeenOk.init (T : List (List UInt8)) : SeenOk T (List.replicate (T.length + 2) false) [] :=
  ⟨by simp, by simp, by simp, fun i hi h => by simp [List.getElem?_replicate] at h, fun i h => rfl, fun k hk => by simp [keys] at hk⟩
theorem SeenOk.put {T : List (List UInt8)} {sn : List Bool} {m : JTx} (h : SeenOk T sn m) {q : Nat} {t : List UInt8} (ht : T[q]? = some t) {m2 : JTx}
    (hm : (mget m (((q + 1 : Nat)) : Int) = none ∧ m2 = mput m (((q + 1 : Nat)) : Int) t) ∨ m2 = m ∧ (mget m (((q + 1 : Nat)) : Int)).isSome = true) : SeenOk T (sn.set (q + 1) true) m2 := by
  have hq : q < T.length := (List.getElem?_eq_some_iff.1 ht).1
  have hl := h.len
  have hqs : sn[q + 1]? = some true ∨ sn[q + 1]? = some false := by
    rw [List.getElem?_eq_getElem (by omega)]
    cases sn[q + 1] <;> simp
  have hget : ∀ i : Nat, mget m2 (i : Int) = if i = q + 1 then some t else mget m (i : Int) := by
    intro i
    rcases hm with ⟨h1, rfl⟩ | ⟨rfl, h1⟩
    · rw [mget_mput]
      by_cases e : i = q + 1
      · subst e; simp
      · rw [if_neg (by omega), if_neg e]
    · by_cases e : i = q + 1
      · subst e
        rw [if_pos rfl]
        rcases hqs with h2 | h2
        · rw [h.got q hq h2, ht]
        · rw [h.lack _ h2] at h1; cases h1
      · rw [if_neg e]
  refine ⟨by simp [hl], ?_, ?_, ?_, ?_, ?_⟩
  · rw [List.getElem?_set_ne (by omega)]; exact h.zero
  · rw [List.getElem?_set_ne (by omega)]; exact h.last
  · intro i hi hs
    rw [hget]
    by_cases e : i = q
    · subst e; rw [if_pos rfl, ht]
    · rw [if_neg (by omega)]
      rw [List.getElem?_set_ne (by omega)] at hs
      exact h.got i hi hs
  · intro i hs
    rw [hget]
    by_cases e : i = q + 1
    · subst e
      rw [List.getElem?_set_self (by omega)] at hs
      cases hs
    · rw [if_neg e]
      rw [List.getElem?_set_ne (by omega)] at hs
      exact h.lack i hs
  · intro k hk
    rcases hm with ⟨h1, rfl⟩ | ⟨rfl, h1⟩
    · rw [keys_mput] at hk
      split at hk
      · exact h.dom k hk
      · rcases List.mem_append.1 hk with hk | hk
        · exact h.dom k hk
        · simp only [List.mem_singleton] at hk
          exact ⟨q + 1, hk, by omega, by omega⟩
    · exact h.dom k hk
theorem SeenOk.ml {T : List (List UInt8)} {sn : List Bool} {m : JTx} (h : SeenOk T sn m) (hn : (keys m).Nodup) : m.length ≤ T.length := keys_in _ hn h.dom
theorem slBool : Sl Tryz.prog 32 4 1 1 (.bool false) := .mk' Tryz.underlying32 (by kernel_rfl) rfl (by decide)
theorem make_bools (w : World) (n : Nat) (hn : n ≤ 1000) : (Instr.makeSlice 32 (.int .i64 ((n : Int) + 2)) (.int .i64 ((n : Int) + 2))).run Tryz.prog w = .ok (.slice (some ⟨w.heap.size, 0, none⟩) (n + 2) (n + 2)) (w.alloc (.cells (Fs (List.replicate (n + 2) false)).toArray 4)) := by
  obtain ⟨i, hi, hz, hs, hb⟩ := slBool.info
  have h := run_make (P := Tryz.prog) w 32 4 i (.bool false) slBool.sl hi hz .i64 .i64 ((n : Int) + 2) ((n : Int) + 2) (by omega) (by omega) (by rw [hb]; omega) (by omega)
  rw [h]
  have e1 : ((n : Int) + 2).toNat = n + 2 := by omega
  rw [e1]
  have e2 : madeCells (Value.bool false).cells ((n + 2) * i.size) = (Fs (List.replicate (n + 2) false)).toArray := by
    apply Array.ext
    · simp [madeCells, Fs, hs]
    · intro j h1 h2
      simp [madeCells, Fs, Value.cells, Nat.mod_one]
  rw [e2]

theorem Fs_at {sn : List Bool} {i : Nat} {v : Bool} (h : sn[i]? = some v) : (Fs sn).toArray[i]? = some (.bool v) := by simp [Fs, h]
theorem Fs_set (sn : List Bool) (i : Nat) (v : Bool) : (Fs sn).toArray.setIfInBounds i (.bool v) = (Fs (sn.set i v)).toArray := by
  simp [Fs, List.map_set]
/-- an entry of the list is told -/
theorem commit_seen {W w : World} {L : List Asn} {b : Nat} {m : JTx} {ss : List StT} {T : List (List UInt8)} {sn : List Bool} (S0 : Sat W w (judgeA b m ss 0 0 :: L)) (hG : GL W) (hm : oldA W ∈ L) (hT : TabE W) (hJ : JOk m ss) (hfull : mget m (ss.length : Int) = none)
    (hs : SeenOk T sn m) (htl : ∀ t ∈ T, t.length ≤ 488) (hl : T.length ≤ 43) {q : Nat} {t : List UInt8} (ht : T[q]? = some t) :
    Calls Tryz.prog 13 #[ptr b, .int .i64 ((q : Int) + 1), .string (S t)] w fun e w' => ∃ m2 ss2, e = .returned (.bool true) ∧ JOk m2 ss2 ∧ mget m2 (ss2.length : Int) = none ∧ SeenOk T (sn.set (q + 1) true) m2 ∧ Sat W w' (judgeA b m2 ss2 0 0 :: L) := by
  have hml := hs.ml hJ.nd
  have h1 := htl t (List.mem_of_getElem? ht)
  have hq : q < T.length := (List.getElem?_eq_some_iff.1 ht).1
  have hql := hs.len
  refine (commit_j S0 hG hm hT hJ hfull ((q : Int) + 1) t (by omega) (by omega)).mono ?_
  rintro e w' ⟨m2, ss2, wr2, r, rfl, hJ2, hF2, hc, S2⟩
  have ec : (((q + 1 : Nat)) : Int) = (q : Int) + 1 := by omega
  rcases hc with ⟨h2, rfl, rfl, rfl⟩ | ⟨t', h2, rfl, rfl, rfl, rfl⟩
  · exact ⟨_, ss2, rfl, hJ2, hF2, hs.put ht (.inl ⟨by rw [ec]; exact h2, by rw [ec]⟩), S2⟩
  · have h3 : sn[q + 1]? = some true := by
      rw [List.getElem?_eq_getElem (by omega)]
      cases h4 : sn[q + 1] with
      | true => rfl
      | false =>
        have h5 := hs.lack (q + 1) (by rw [List.getElem?_eq_getElem (by omega), h4])
        rw [ec, h2] at h5
        cases h5
    have h6 := hs.got q hq h3
    rw [ec, h2, ht] at h6
    injection h6 with h6
    subst h6
    rw [if_pos rfl] at S2
    refine ⟨_, _, by simp, hJ2, hF2, hs.put ht (.inr ⟨rfl, by rw [ec, h2]; rfl⟩), S2⟩
/-- another text is told -/
theorem commit_other {W w : World} {L : List Asn} {b : Nat} {m : JTx} {ss : List StT} {T : List (List UInt8)} {sn : List Bool} (S0 : Sat W w (judgeA b m ss 0 0 :: L)) (hG : GL W) (hm : oldA W ∈ L) (hT : TabE W) (hJ : JOk m ss) (hfull : mget m (ss.length : Int) = none)
    (hs : SeenOk T sn m) (htl : ∀ t ∈ T, t.length ≤ 488) (hl : T.length ≤ 43) {q : Nat} {t : List UInt8} (ht : T[q]? = some t) {v : Bool} (hv : sn[q + 1]? = some v) :
    Calls Tryz.prog 13 #[ptr b, .int .i64 ((q : Int) + 1), .string (S (t ++ [120]))] w fun e w' => ∃ m2 ss2, e = .returned (.bool (!v)) ∧ Sat W w' (judgeA b m2 ss2 0 (if v = true then 6 else 0) :: L) := by
  have hml := hs.ml hJ.nd
  have h1 := htl t (List.mem_of_getElem? ht)
  have hq : q < T.length := (List.getElem?_eq_some_iff.1 ht).1
  refine (commit_j S0 hG hm hT hJ hfull ((q : Int) + 1) (t ++ [120]) (by simp; omega) (by omega)).mono ?_
  rintro e w' ⟨m2, ss2, wr2, r, rfl, hJ2, hF2, hc, S2⟩
  have ec : (((q + 1 : Nat)) : Int) = (q : Int) + 1 := by omega
  cases v with
  | false =>
    have h5 := hs.lack (q + 1) hv
    rw [ec] at h5
    rcases hc with ⟨h2, rfl, rfl, rfl⟩ | ⟨t', h2, -⟩
    · exact ⟨_, ss2, rfl, S2⟩
    · rw [h2] at h5; cases h5
  | true =>
    have h6 := hs.got q hq hv
    rw [ec, ht] at h6
    rcases hc with ⟨h2, -⟩ | ⟨t', h2, rfl, rfl, rfl, rfl⟩
    · rw [h2] at h6; cases h6
    · rw [h2] at h6
      injection h6 with h6
      subst h6
      rw [if_neg (by simp)] at S2
      exact ⟨_, _, by simp, S2⟩

set_option maxRecDepth 100000 in
set_option maxHeartbeats 16000000 in
theorem jcommits_walk (W : World) (hG : GL W) (hT : TabE W) (A0 A1q : Option Addr) (q0 : List CQ) (os : List Int) (c0 c1 : Nat) (wr0 : Int) (hs0 : Src W 8 A0 q0.length (q0.flatMap cqL)) (hk0 : ∀ q ∈ q0, CqOk W q) (hl0 : q0.length ≤ 9223372036854775807)
    (hs1 : Src W 1 A1q os.length (Is os)) (hl1 : os.length ≤ 9223372036854775807) :
    Calls Tryz.prog 3 #[.slice A0 q0.length c0, .slice A1q os.length c1, .int .i64 wr0] W fun e W' => e = .returned (.bool true) ∧ Keeps (fun _ => False) W W' := by
  have HG0 := hide hG
  have HT0 := hide hT
  have HF0 := hide fun (w' : World) (L' : List Asn) (S' : Sat W w' L') (h : oldA W ∈ L') => s_fewq S' h q0 A0 c0 hs0 hk0 hl0
  have HFX := hide fun (w' : World) (L' : List Asn) (S' : Sat W w' L') (h : oldA W ∈ L') (hl : q0.length ≤ 40) => fixed_walk S' h hG hT A0 q0 c0 hs0 hk0 hl
  have HAT : Hid (∀ (w' : World) (L' : List Asn) (S' : Sat W w' L') (h : oldA W ∈ L') (k : Nat) (hk : k < os.length), ∃ ad x, A1q = some ad ∧ w'.cell? (ad.add k) = some (.int .i64 x)) := hide fun w' L' S' h k hk => by
    obtain ⟨L2, S2⟩ := S'.mem_ h
    obtain ⟨ad, u, e, hu, hc⟩ := Src.at_ (hs1.keep S2.keep_all (fun _ _ h => h)) hk
    obtain ⟨x, -, e2⟩ := List.mem_map.1 (List.mem_of_getElem? hu)
    exact ⟨ad, x, e, by rw [hc, e2]⟩
  have HMK := hide fun (w' : World) (n : Nat) (hn : n ≤ 1000) => make_bools w' n hn
  clear hs0 hk0 hs1 hG hT
  go_enter Tryz.func3, Tryz.ntmps3
  go_wp2_with fail
  refine (head_judge (Sat.start W) HG0.out (by simp) HT0.out).mono ?_
  rintro e w1 ⟨rfl, S1⟩
  go_wp2_with fail
  refine (HF0.out _ _ S1 (by simp)).mono ?_
  rintro e w2 ⟨he, S2⟩
  clear S1 HF0
  rcases he with rfl | ⟨rfl, h40⟩
  · have HS := hide S2.keep_all
    clear S2
    go_wp2_with fail
    go_ret
    exact ⟨rfl, HS.out⟩
  by_cases ho : 100 < os.length
  · have ho2 : (100 : Int) < (os.length : Int) := by omega
    have HS := hide S2.keep_all
    clear S2
    go_wp2_with fail
    go_ret
    exact ⟨rfl, HS.out⟩
  have ho2 : ¬ (100 : Int) < (os.length : Int) := by omega
  have hob : os.length ≤ 100 := by omega
  go_wp2_with fail
  clear ho2 ho
  refine (HFX.out _ _ S2 (by simp) (by omega)).mono ?_
  rintro e w3 ⟨T, A5, A6, c5, c6, ps, rfl, hTl, hF, S3⟩
  have HF := hide hF
  have HTL := hide hTl
  have hTb : T.length ≤ 43 := by omega
  have hTp : 3 ≤ T.length := by omega
  clear S2 HFX hF hTl
  go_wp2_with fail
  refine (new_j S3).mono ?_
  rintro e w4 ⟨b, rfl, S4⟩
  have hmk := HMK.out w4 T.length (by omega)
  have hw1 : IntKind.i64.wrap ((T.length : Int) + 2) = (T.length : Int) + 2 := IntWalk.i64_in _ ⟨by omega, by omega⟩
  have S5 := S4.box (Fs (List.replicate (T.length + 2) false)).toArray 4 rfl
  clear S3
  go_wp2_with fail
  generalize w4.alloc (.cells (Fs (List.replicate (T.length + 2) false)).toArray 4) = w5 at *
  generalize w4.heap.size = nb at *
  clear S4 hmk hw1
  go_loopw [39] (fun i wr => ∃ (k : Nat) (sn : List Bool) (m : JTx) (ss : List StT), k ≤ os.length ∧ i = .int .i64 (k : Int) ∧ JOk m ss ∧ mget m (ss.length : Int) = none ∧ SeenOk T sn m ∧ Sat W wr (judgeA b m ss 0 0 :: cellsA nb 4 (Fs sn).toArray :: rowA 9 1 (.slice A5 T.length c5) T.length (Ss T) :: jR (.slice A6 ps.length c6) ps :: jS ps :: [oldA W])) (fun i _ => os.length - (RowKit.intOf i).toNat)
  case atStart => exact ⟨0, _, [], [st0], by omega, rfl, JOk.init, rfl, SeenOk.init T, S5.p1⟩
  case round =>
    obtain ⟨k, sn, m, ss, hk, rfl, hJ, hfull, hSN, S6⟩ := hrel
    clear S5
    have hsl := hSN.len
    by_cases hlt : k < os.length
    · obtain ⟨ad, n, rfl, z0⟩ := HAT.out wr _ S6 (by simp) k hlt
      have hK : 0 ≤ bits .and .i64 n 255 ∧ bits .and .i64 n 255 ≤ 255 := and_le n 255 (by decide)
      have hK1 := hK.1
      obtain ⟨q, hq⟩ : ∃ q : Nat, (bits .and .i64 n 255).tmod (T.length : Int) = (q : Int) := ⟨(bits .and .i64 n 255 % (T.length : Int)).toNat, by
        rw [Int.tmod_eq_emod_of_nonneg hK.1]
        have := Int.emod_nonneg (bits .and .i64 n 255) (b := (T.length : Int)) (by omega)
        omega⟩
      have hq2 : q < T.length := by
        have := Int.emod_lt_of_pos (bits .and .i64 n 255) (b := (T.length : Int)) (by omega)
        rw [← Int.tmod_eq_emod_of_nonneg hK.1, hq] at this
        omega
      have hq3 : (q : Int) < (T.length : Int) := by omega
      have hq4 : (q : Int) + 1 < (T.length : Int) + 2 := by omega
      have hw2 : IntKind.i64.wrap (1 + (q : Int)) = (q : Int) + 1 := by rw [IntWalk.i64_in _ ⟨by omega, by omega⟩]; omega
      have hw3 : IntKind.i64.wrap ((q : Int) + 1 - 1) = (q : Int) := by rw [IntWalk.i64_in _ ⟨by omega, by omega⟩]; omega
      have hw4 : IntKind.i64.wrap (q : Int) = (q : Int) := IntWalk.i64_in _ ⟨by omega, by omega⟩
      obtain ⟨adt, u, rfl, hu, zt⟩ := Src.at_ (S6.bring 2).srcOf hq2
      obtain ⟨t, ht, rfl⟩ : ∃ t, T[q]? = some t ∧ u = .string (S t) := by
        obtain ⟨t, h1, h2⟩ := List.mem_map.1 (List.mem_of_getElem? hu)
        rw [show Ss T = T.map fun s => Value.string (S s) from rfl, List.getElem?_map] at hu
        cases h3 : T[q]? with
        | none => rw [h3] at hu; cases hu
        | some t2 => rw [h3] at hu; injection hu with hu; exact ⟨t2, rfl, hu.symm⟩
      have hco := commit_seen S6 HG0.out (by simp) HT0.out hJ hfull hSN HF.out.tl hTb ht
      clear hu hJ hfull hSN ht
      go_wp2_with fail
      refine hco.mono ?_
      rintro e w7 ⟨m2, ss2, rfl, hJ2, hF2, hSN2, S7⟩
      clear S6 hco z0 zt hK hK1 hq
      have hsb : ∃ v0, sn[q + 1]? = some v0 := ⟨_, List.getElem?_eq_getElem (by omega)⟩
      obtain ⟨v0, hv0⟩ := hsb
      have xs0 := (S7.bring 1).cell (q + 1) _ (Fs_at hv0)
      have xf0 := (S7.bring 1).cells_fz (q + 1)
      have S8 := (S7.bring 1).setc (q + 1) (.bool true)
      rw [Fs_set] at S8
      have hsl2 : (sn.set (q + 1) true).length = T.length + 2 := by simp; omega
      generalize hsn : sn.set (q + 1) true = sn2 at *
      clear hsn
      go_upto_block 2 with fail
      generalize w7.setCell ⟨nb, q + 1, none⟩ (.bool true) = w8 at *
      clear S7 xs0 xf0 hv0
      have HJ2 := hide hJ2
      have HF2 := hide hF2
      have HS2 := hide hSN2
      have HSL := hide hsl2
      clear hJ2 hF2 hSN2 hsl2 hq2 hq3 hq4 hw2 hw3 hw4
      go_wp2_with fail
      go_loopw [14] (fun kv wr => ∃ kk : Nat, kv = .int .i64 (kk : Int) ∧ kk ≤ T.length ∧ (∀ j : Nat, 1 ≤ j → j ≤ kk → sn2[j]? = some true) ∧ Sat W wr (cellsA nb 4 (Fs sn2).toArray :: judgeA b m2 ss2 0 0 :: rowA 9 1 (.slice (some adt) T.length c5) T.length (Ss T) :: jR (.slice A6 ps.length c6) ps :: jS ps :: [oldA W])) (fun kv _ => T.length + 1 - (RowKit.intOf kv).toNat)
      case atStart => exact ⟨0, rfl, by omega, fun j h1 h2 => by omega, S8⟩
      case round =>
        obtain ⟨kk, rfl, hkk, hall, S9⟩ := hrel
        clear S8
        have HALL := hide hall
        obtain ⟨v1, hv1⟩ : ∃ v1, sn2[kk + 1]? = some v1 := ⟨_, List.getElem?_eq_getElem (by have := HSL.out; omega)⟩
        have y0 := S9.cell (kk + 1) _ (Fs_at hv1)
        have hw5 : IntKind.i64.wrap ((kk : Int) + 1) = (kk : Int) + 1 := IntWalk.i64_in _ ⟨by omega, by omega⟩
        have hb5 : (kk : Int) + 1 < (T.length : Int) + 2 := by omega
        have HV1 := hide hv1
        clear hall hv1
        cases v1
        · have hkn : ss2.length = kk + 1 := HJ2.out.known HF2.out (k := kk) (fun j h1 h2 => by
              obtain ⟨j, rfl⟩ : ∃ i, j = i + 1 := ⟨j - 1, by omega⟩
              rw [HS2.out.got j (by omega) (HALL.out _ h1 h2), List.getElem?_eq_getElem (by omega)]
              rfl) (by have := HS2.out.lack _ HV1.out; rw [← this]; congr 1)
          have hkr := j_known (S9.bring 1) (by omega)
          rw [show ((ss2.length : Nat) : Int) - 1 = (kk : Int) by omega] at hkr
          clear hkn
          go_wp2_with fail
          refine hkr.mono ?_
          rintro e w10 ⟨rfl, S10⟩
          clear S9 hkr y0
          go_wp2_with fail
          refine (j_wrong S10).mono ?_
          rintro e w11 ⟨rfl, S11⟩
          have S12 := S11
          clear S10 S11 hw5 hb5
          go_wp2_with fail
          go_roundw
          case rel => exact ⟨k + 1, sn2, m2, ss2, by omega, by go_num, HJ2.out, HF2.out, HS2.out, S12⟩
          case measure => simp [RowKit.intOf]; omega
        · have hk1 : kk + 1 ≤ T.length := by
            have hla := HS2.out.last
            have h5 := HV1.out
            by_cases e : kk = T.length
            · subst e; rw [h5] at hla; cases hla
            · omega
          go_wp2_with fail
          go_roundw
          case rel => exact ⟨kk + 1, by go_num, hk1, fun j h1 h2 => by
              by_cases e : j = kk + 1
              · rw [e]; exact HV1.out
              · exact HALL.out j h1 (by omega), S9⟩
          case measure => simp [RowKit.intOf]; omega
    · obtain rfl : k = os.length := by omega
      have HJ := hide hJ
      have HFU := hide hfull
      have HSN := hide hSN
      clear hJ hfull hSN
      have hK : 0 ≤ bits .and .i64 wr0 255 ∧ bits .and .i64 wr0 255 ≤ 255 := and_le wr0 255 (by decide)
      have hK1 := hK.1
      obtain ⟨q, hq⟩ : ∃ q : Nat, (bits .and .i64 wr0 255).tmod (T.length : Int) = (q : Int) := ⟨(bits .and .i64 wr0 255 % (T.length : Int)).toNat, by
        rw [Int.tmod_eq_emod_of_nonneg hK.1]
        have := Int.emod_nonneg (bits .and .i64 wr0 255) (b := (T.length : Int)) (by omega)
        omega⟩
      have hq2 : q < T.length := by
        have := Int.emod_lt_of_pos (bits .and .i64 wr0 255) (b := (T.length : Int)) (by omega)
        rw [← Int.tmod_eq_emod_of_nonneg hK.1, hq] at this
        omega
      have hq3 : (q : Int) < (T.length : Int) := by omega
      have hq4 : (q : Int) + 1 < (T.length : Int) + 2 := by omega
      have hw2 : IntKind.i64.wrap (1 + (q : Int)) = (q : Int) + 1 := by rw [IntWalk.i64_in _ ⟨by omega, by omega⟩]; omega
      have hw3 : IntKind.i64.wrap ((q : Int) + 1 - 1) = (q : Int) := by rw [IntWalk.i64_in _ ⟨by omega, by omega⟩]; omega
      have hw4 : IntKind.i64.wrap (q : Int) = (q : Int) := IntWalk.i64_in _ ⟨by omega, by omega⟩
      obtain ⟨adt, u, rfl, hu, zt⟩ := Src.at_ (S6.bring 2).srcOf hq2
      obtain ⟨t, ht, rfl⟩ : ∃ t, T[q]? = some t ∧ u = .string (S t) := by
        rw [show Ss T = T.map fun s => Value.string (S s) from rfl, List.getElem?_map] at hu
        cases h3 : T[q]? with
        | none => rw [h3] at hu; cases hu
        | some t2 => rw [h3] at hu; injection hu with hu; exact ⟨t2, rfl, hu.symm⟩
      have hq5 : (0 : Int) ≤ (q : Int) + 1 := by omega
      have htl := HF.out.tl t (List.mem_of_getElem? ht)
      obtain ⟨v0, hv0⟩ : ∃ v0, sn[q + 1]? = some v0 := ⟨_, List.getElem?_eq_getElem (by omega)⟩
      have hco := commit_other S6 HG0.out (by simp) HT0.out HJ.out HFU.out HSN.out HF.out.tl hTb ht hv0
      have hcc : S t ++ (⟨#[120]⟩ : ByteArray) = S (t ++ [120]) := by rw [show (⟨#[120]⟩ : ByteArray) = S [120] from rfl, S_append]
      have HV0 := hide (Fs_at hv0)
      clear hu ht hv0 HSN HJ HFU
      go_wp2_with fail
      refine hco.mono ?_
      rintro e w7 ⟨m2, ss2, rfl, S7⟩
      have HX : Hid (∀ (w' : World) (L' : List Asn), Sat W w' L' → cellsA nb 4 (Fs sn).toArray ∈ L' → w'.cell? ⟨nb, q + 1, none⟩ = some (.bool v0)) := hide fun w' L' S' h => S'.cell_of h (q + 1) _ HV0.out
      clear S6 hco zt hK hK1 hq HV0
      cases v0
      · simp only [Bool.not_false, Bool.false_eq_true, if_false] at S7 ⊢
        go_upto_region 23 with fail
        refine wp_region_held_drew (S := (fun w' => w'.cell? ⟨nb, q + 1, none⟩ = some (.bool false))) (by kernel_rfl) ?_ (fun hHeld => ?_)
        · exact HX.out _ _ S7.drew (by simp)
        refine wpAnyH_take (i := 0) (oi := _) (v := ?_) rfl (by kernel_rfl) (by kernel_rfl) (by kernel_rfl) (fun _ _ _ h => h) (Or.inl ⟨by rfl, ?_⟩) hHeld ?_
        rotate_left
        · intro w' hSw
          (try dsimp only at hSw)
          go_simp
          try with_reducible rfl
        try simp only [Act.put, List.setIfInBounds_toArray, List.set_cons_zero, List.set_cons_succ, List.getElem_toArray, List.getElem_cons_zero, List.getElem_cons_succ]
        refine wpAnyH_take (i := 1) (oi := _) (v := ?_) rfl (by kernel_rfl) (by kernel_rfl) (by kernel_rfl) (fun _ _ _ h => h) (Or.inl ⟨by rfl, ?_⟩) hHeld ?_
        rotate_left
        · intro w' hSw
          (try dsimp only at hSw)
          go_simp
          try with_reducible rfl
        try simp only [Act.put, List.setIfInBounds_toArray, List.set_cons_zero, List.set_cons_succ, List.getElem_toArray, List.getElem_cons_zero, List.getElem_cons_succ]
        refine wpAnyH_take (i := 2) (oi := _) (v := ?_) rfl (by kernel_rfl) (by kernel_rfl) (by kernel_rfl) (fun _ _ _ h => h) (Or.inl ⟨by rfl, ?_⟩) hHeld ?_
        rotate_left
        · intro w' hSw
          (try dsimp only at hSw)
          go_simp
          try with_reducible rfl
        try simp only [Act.put, List.setIfInBounds_toArray, List.set_cons_zero, List.set_cons_succ, List.getElem_toArray, List.getElem_cons_zero, List.getElem_cons_succ]
        refine wpAnyH_take (i := 3) (oi := _) (v := ?_) rfl (by kernel_rfl) (by kernel_rfl) (by kernel_rfl) (fun _ _ _ h => h) (Or.inl ⟨by rfl, ?_⟩) hHeld ?_
        rotate_left
        · intro w' hSw
          (try dsimp only at hSw)
          go_simp
          try with_reducible rfl
        try simp only [Act.put, List.setIfInBounds_toArray, List.set_cons_zero, List.set_cons_succ, List.getElem_toArray, List.getElem_cons_zero, List.getElem_cons_succ]
        refine wpAnyH_take (i := 4) (oi := _) (v := ?_) rfl (by kernel_rfl) (by kernel_rfl) (by kernel_rfl) (fun _ _ _ h => h) (Or.inl ⟨by rfl, ?_⟩) hHeld ?_
        rotate_left
        · intro w' hSw
          (try dsimp only at hSw)
          go_simp
          try with_reducible rfl
        try simp only [Act.put, List.setIfInBounds_toArray, List.set_cons_zero, List.set_cons_succ, List.getElem_toArray, List.getElem_cons_zero, List.getElem_cons_succ]
        refine wpAnyH_take (i := 5) (oi := _) (v := ?_) rfl (by kernel_rfl) (by kernel_rfl) (by kernel_rfl) (fun _ _ _ h => h) (Or.inl ⟨by rfl, ?_⟩) hHeld ?_
        rotate_left
        · intro w' hSw
          (try dsimp only at hSw)
          go_simp
          try with_reducible rfl
        try simp only [Act.put, List.setIfInBounds_toArray, List.set_cons_zero, List.set_cons_succ, List.getElem_toArray, List.getElem_cons_zero, List.getElem_cons_succ]
        refine wpAnyH_take (i := 6) (oi := _) (v := ?_) rfl (by kernel_rfl) (by kernel_rfl) (by kernel_rfl) (fun _ _ _ h => h) (Or.inl ⟨by rfl, ?_⟩) hHeld ?_
        rotate_left
        · intro w' hSw
          (try dsimp only at hSw)
          go_simp
          try with_reducible rfl
        try simp only [Act.put, List.setIfInBounds_toArray, List.set_cons_zero, List.set_cons_succ, List.getElem_toArray, List.getElem_cons_zero, List.getElem_cons_succ]
        refine wpAnyH_take (i := 7) (oi := _) (v := ?_) rfl (by kernel_rfl) (by kernel_rfl) (by kernel_rfl) (fun _ _ _ h => h) (Or.inl ⟨by rfl, ?_⟩) hHeld ?_
        rotate_left
        · intro w' hSw
          (try dsimp only at hSw)
          go_simp
          try with_reducible rfl
        try simp only [Act.put, List.setIfInBounds_toArray, List.set_cons_zero, List.set_cons_succ, List.getElem_toArray, List.getElem_cons_zero, List.getElem_cons_succ]
        refine wpAnyH_take (i := 8) (oi := _) (v := ?_) rfl (by kernel_rfl) (by kernel_rfl) (by kernel_rfl) (fun _ _ _ h => h) (Or.inl ⟨by rfl, ?_⟩) hHeld ?_
        rotate_left
        · intro w' hSw
          (try dsimp only at hSw)
          go_simp
          try with_reducible rfl
        try simp only [Act.put, List.setIfInBounds_toArray, List.set_cons_zero, List.set_cons_succ, List.getElem_toArray, List.getElem_cons_zero, List.getElem_cons_succ]
        refine wpAnyH_take (i := 11) (oi := _) (v := ?_) rfl (by kernel_rfl) (by kernel_rfl) (by kernel_rfl) (fun _ _ _ h => h) (Or.inl ⟨by rfl, ?_⟩) hHeld ?_
        rotate_left
        · intro w' hSw
          (try dsimp only at hSw)
          go_simp
          try with_reducible rfl
        try simp only [Act.put, List.setIfInBounds_toArray, List.set_cons_zero, List.set_cons_succ, List.getElem_toArray, List.getElem_cons_zero, List.getElem_cons_succ]
        refine wpAnyH_take (i := 12) (oi := _) (v := ?_) rfl (by kernel_rfl) (by kernel_rfl) (by kernel_rfl) (fun _ _ _ h => h) (Or.inl ⟨by rfl, ?_⟩) hHeld ?_
        rotate_left
        · intro w' hSw
          (try dsimp only at hSw)
          go_simp
          try with_reducible rfl
        try simp only [Act.put, List.setIfInBounds_toArray, List.set_cons_zero, List.set_cons_succ, List.getElem_toArray, List.getElem_cons_zero, List.getElem_cons_succ]
        refine wpAnyH_take (i := 13) (oi := _) (v := ?_) rfl (by kernel_rfl) (by kernel_rfl) (by kernel_rfl) (fun _ _ _ h => h) (Or.inl ⟨by rfl, ?_⟩) hHeld ?_
        rotate_left
        · intro w' hSw
          (try dsimp only at hSw)
          go_simp
          try with_reducible rfl
        try simp only [Act.put, List.setIfInBounds_toArray, List.set_cons_zero, List.set_cons_succ, List.getElem_toArray, List.getElem_cons_zero, List.getElem_cons_succ]
        refine wpAnyH_take (i := 14) (oi := _) (v := ?_) rfl (by kernel_rfl) (by kernel_rfl) (by kernel_rfl) (fun _ _ _ h => h) (Or.inl ⟨by rfl, ?_⟩) hHeld ?_
        rotate_left
        · intro w' hSw
          (try dsimp only at hSw)
          go_simp
          try with_reducible rfl
        try simp only [Act.put, List.setIfInBounds_toArray, List.set_cons_zero, List.set_cons_succ, List.getElem_toArray, List.getElem_cons_zero, List.getElem_cons_succ]
        refine wpAnyH_ready (rs := [9]) (by kernel_rfl) (by simp) ?_
        refine AllReadyH.cons rfl (fun K hK => ?_) ?_
        · go_simp
          go_at_call 15
          refine (j_wrong (g := W) (by (repeat (first | refine Sat.drew ?_ | refine Sat.drewN ?_ _)); exact S7)).mono ?_
          rintro e w9 ⟨rfl, S9⟩
          have z9 := HX.out _ _ S9 (by simp)
          refine hK.out _ _ ?_ (fun hHeld => ?_)
          · exact HX.out _ _ S9 (by simp)
          clear hK K
          try simp only [Act.put, List.setIfInBounds_toArray, List.set_cons_zero, List.set_cons_succ, List.getElem_toArray, List.getElem_cons_zero, List.getElem_cons_succ]
          refine wpAnyH_take (i := 10) (oi := _) (v := ?_) rfl (by kernel_rfl) (by kernel_rfl) (by kernel_rfl) (fun _ _ _ h => h) (Or.inl ⟨by rfl, ?_⟩) hHeld ?_
          rotate_left
          · intro w' hSw
            (try dsimp only at hSw)
            go_simp
            try with_reducible rfl
          try simp only [Act.put, List.setIfInBounds_toArray, List.set_cons_zero, List.set_cons_succ, List.getElem_toArray, List.getElem_cons_zero, List.getElem_cons_succ]
          refine wpAnyH_take (i := 15) (oi := _) (v := ?_) rfl (by kernel_rfl) (by kernel_rfl) (by kernel_rfl) (fun _ _ _ h => h) (Or.inl ⟨by rfl, ?_⟩) hHeld ?_
          rotate_left
          · intro w' hSw
            (try dsimp only at hSw)
            go_simp
            try with_reducible rfl
          try simp only [Act.put, List.setIfInBounds_toArray, List.set_cons_zero, List.set_cons_succ, List.getElem_toArray, List.getElem_cons_zero, List.getElem_cons_succ]
          refine wpAnyH_take (i := 16) (oi := _) (v := ?_) rfl (by kernel_rfl) (by kernel_rfl) (by kernel_rfl) (fun _ _ _ h => h) (Or.inl ⟨by rfl, ?_⟩) hHeld ?_
          rotate_left
          · intro w' hSw
            (try dsimp only at hSw)
            go_simp
            try with_reducible rfl
          try simp only [Act.put, List.setIfInBounds_toArray, List.set_cons_zero, List.set_cons_succ, List.getElem_toArray, List.getElem_cons_zero, List.getElem_cons_succ]
          refine wpAnyH_take (i := 17) (oi := _) (v := ?_) rfl (by kernel_rfl) (by kernel_rfl) (by kernel_rfl) (fun _ _ _ h => h) (Or.inl ⟨by rfl, ?_⟩) hHeld ?_
          rotate_left
          · intro w' hSw
            (try dsimp only at hSw)
            go_simp
            try with_reducible rfl
          try simp only [Act.put, List.setIfInBounds_toArray, List.set_cons_zero, List.set_cons_succ, List.getElem_toArray, List.getElem_cons_zero, List.getElem_cons_succ]
          refine wpAnyH_done (by kernel_rfl) ?_ _
          have HK := hide (Sat.keep_all S9.drop.drop.drop.drop.drop)
          clear S7 S9 z9
          go_wp2_with fail
          go_ret
          exact ⟨rfl, HK.out⟩
        exact AllReadyH.nil

      · simp only [Bool.not_true, if_true] at S7 ⊢
        go_upto_region 23 with fail
        refine wp_region_held_drew (S := (fun w' => w'.cell? ⟨nb, q + 1, none⟩ = some (.bool true))) (by kernel_rfl) ?_ (fun hHeld => ?_)
        · exact HX.out _ _ S7.drew (by simp)
        refine wpAnyH_take (i := 0) (oi := _) (v := ?_) rfl (by kernel_rfl) (by kernel_rfl) (by kernel_rfl) (fun _ _ _ h => h) (Or.inl ⟨by rfl, ?_⟩) hHeld ?_
        rotate_left
        · intro w' hSw
          (try dsimp only at hSw)
          go_simp
          try with_reducible rfl
        try simp only [Act.put, List.setIfInBounds_toArray, List.set_cons_zero, List.set_cons_succ, List.getElem_toArray, List.getElem_cons_zero, List.getElem_cons_succ]
        refine wpAnyH_take (i := 1) (oi := _) (v := ?_) rfl (by kernel_rfl) (by kernel_rfl) (by kernel_rfl) (fun _ _ _ h => h) (Or.inl ⟨by rfl, ?_⟩) hHeld ?_
        rotate_left
        · intro w' hSw
          (try dsimp only at hSw)
          go_simp
          try with_reducible rfl
        try simp only [Act.put, List.setIfInBounds_toArray, List.set_cons_zero, List.set_cons_succ, List.getElem_toArray, List.getElem_cons_zero, List.getElem_cons_succ]
        refine wpAnyH_take (i := 2) (oi := _) (v := ?_) rfl (by kernel_rfl) (by kernel_rfl) (by kernel_rfl) (fun _ _ _ h => h) (Or.inl ⟨by rfl, ?_⟩) hHeld ?_
        rotate_left
        · intro w' hSw
          (try dsimp only at hSw)
          go_simp
          try with_reducible rfl
        try simp only [Act.put, List.setIfInBounds_toArray, List.set_cons_zero, List.set_cons_succ, List.getElem_toArray, List.getElem_cons_zero, List.getElem_cons_succ]
        refine wpAnyH_take (i := 3) (oi := _) (v := ?_) rfl (by kernel_rfl) (by kernel_rfl) (by kernel_rfl) (fun _ _ _ h => h) (Or.inl ⟨by rfl, ?_⟩) hHeld ?_
        rotate_left
        · intro w' hSw
          (try dsimp only at hSw)
          go_simp
          try with_reducible rfl
        try simp only [Act.put, List.setIfInBounds_toArray, List.set_cons_zero, List.set_cons_succ, List.getElem_toArray, List.getElem_cons_zero, List.getElem_cons_succ]
        refine wpAnyH_take (i := 4) (oi := _) (v := ?_) rfl (by kernel_rfl) (by kernel_rfl) (by kernel_rfl) (fun _ _ _ h => h) (Or.inl ⟨by rfl, ?_⟩) hHeld ?_
        rotate_left
        · intro w' hSw
          (try dsimp only at hSw)
          go_simp
          try with_reducible rfl
        try simp only [Act.put, List.setIfInBounds_toArray, List.set_cons_zero, List.set_cons_succ, List.getElem_toArray, List.getElem_cons_zero, List.getElem_cons_succ]
        refine wpAnyH_take (i := 5) (oi := _) (v := ?_) rfl (by kernel_rfl) (by kernel_rfl) (by kernel_rfl) (fun _ _ _ h => h) (Or.inl ⟨by rfl, ?_⟩) hHeld ?_
        rotate_left
        · intro w' hSw
          (try dsimp only at hSw)
          go_simp
          try with_reducible rfl
        try simp only [Act.put, List.setIfInBounds_toArray, List.set_cons_zero, List.set_cons_succ, List.getElem_toArray, List.getElem_cons_zero, List.getElem_cons_succ]
        refine wpAnyH_take (i := 6) (oi := _) (v := ?_) rfl (by kernel_rfl) (by kernel_rfl) (by kernel_rfl) (fun _ _ _ h => h) (Or.inl ⟨by rfl, ?_⟩) hHeld ?_
        rotate_left
        · intro w' hSw
          (try dsimp only at hSw)
          go_simp
          try with_reducible rfl
        try simp only [Act.put, List.setIfInBounds_toArray, List.set_cons_zero, List.set_cons_succ, List.getElem_toArray, List.getElem_cons_zero, List.getElem_cons_succ]
        refine wpAnyH_take (i := 7) (oi := _) (v := ?_) rfl (by kernel_rfl) (by kernel_rfl) (by kernel_rfl) (fun _ _ _ h => h) (Or.inl ⟨by rfl, ?_⟩) hHeld ?_
        rotate_left
        · intro w' hSw
          (try dsimp only at hSw)
          go_simp
          try with_reducible rfl
        try simp only [Act.put, List.setIfInBounds_toArray, List.set_cons_zero, List.set_cons_succ, List.getElem_toArray, List.getElem_cons_zero, List.getElem_cons_succ]
        refine wpAnyH_take (i := 8) (oi := _) (v := ?_) rfl (by kernel_rfl) (by kernel_rfl) (by kernel_rfl) (fun _ _ _ h => h) (Or.inl ⟨by rfl, ?_⟩) hHeld ?_
        rotate_left
        · intro w' hSw
          (try dsimp only at hSw)
          go_simp
          try with_reducible rfl
        try simp only [Act.put, List.setIfInBounds_toArray, List.set_cons_zero, List.set_cons_succ, List.getElem_toArray, List.getElem_cons_zero, List.getElem_cons_succ]
        refine wpAnyH_take (i := 11) (oi := _) (v := ?_) rfl (by kernel_rfl) (by kernel_rfl) (by kernel_rfl) (fun _ _ _ h => h) (Or.inl ⟨by rfl, ?_⟩) hHeld ?_
        rotate_left
        · intro w' hSw
          (try dsimp only at hSw)
          go_simp
          try with_reducible rfl
        try simp only [Act.put, List.setIfInBounds_toArray, List.set_cons_zero, List.set_cons_succ, List.getElem_toArray, List.getElem_cons_zero, List.getElem_cons_succ]
        refine wpAnyH_take (i := 12) (oi := _) (v := ?_) rfl (by kernel_rfl) (by kernel_rfl) (by kernel_rfl) (fun _ _ _ h => h) (Or.inl ⟨by rfl, ?_⟩) hHeld ?_
        rotate_left
        · intro w' hSw
          (try dsimp only at hSw)
          go_simp
          try with_reducible rfl
        try simp only [Act.put, List.setIfInBounds_toArray, List.set_cons_zero, List.set_cons_succ, List.getElem_toArray, List.getElem_cons_zero, List.getElem_cons_succ]
        refine wpAnyH_take (i := 13) (oi := _) (v := ?_) rfl (by kernel_rfl) (by kernel_rfl) (by kernel_rfl) (fun _ _ _ h => h) (Or.inl ⟨by rfl, ?_⟩) hHeld ?_
        rotate_left
        · intro w' hSw
          (try dsimp only at hSw)
          go_simp
          try with_reducible rfl
        try simp only [Act.put, List.setIfInBounds_toArray, List.set_cons_zero, List.set_cons_succ, List.getElem_toArray, List.getElem_cons_zero, List.getElem_cons_succ]
        refine wpAnyH_take (i := 14) (oi := _) (v := ?_) rfl (by kernel_rfl) (by kernel_rfl) (by kernel_rfl) (fun _ _ _ h => h) (Or.inl ⟨by rfl, ?_⟩) hHeld ?_
        rotate_left
        · intro w' hSw
          (try dsimp only at hSw)
          go_simp
          try with_reducible rfl
        try simp only [Act.put, List.setIfInBounds_toArray, List.set_cons_zero, List.set_cons_succ, List.getElem_toArray, List.getElem_cons_zero, List.getElem_cons_succ]
        refine wpAnyH_ready (rs := [9]) (by kernel_rfl) (by simp) ?_
        refine AllReadyH.cons rfl (fun K hK => ?_) ?_
        · go_simp
          go_at_call 15
          refine (j_wrong (g := W) (by (repeat (first | refine Sat.drew ?_ | refine Sat.drewN ?_ _)); exact S7)).mono ?_
          rintro e w9 ⟨rfl, S9⟩
          have z9 := HX.out _ _ S9 (by simp)
          refine hK.out _ _ ?_ (fun hHeld => ?_)
          · exact HX.out _ _ S9 (by simp)
          clear hK K
          try simp only [Act.put, List.setIfInBounds_toArray, List.set_cons_zero, List.set_cons_succ, List.getElem_toArray, List.getElem_cons_zero, List.getElem_cons_succ]
          refine wpAnyH_take (i := 10) (oi := _) (v := ?_) rfl (by kernel_rfl) (by kernel_rfl) (by kernel_rfl) (fun _ _ _ h => h) (Or.inl ⟨by rfl, ?_⟩) hHeld ?_
          rotate_left
          · intro w' hSw
            (try dsimp only at hSw)
            go_simp
            try with_reducible rfl
          try simp only [Act.put, List.setIfInBounds_toArray, List.set_cons_zero, List.set_cons_succ, List.getElem_toArray, List.getElem_cons_zero, List.getElem_cons_succ]
          refine wpAnyH_take (i := 15) (oi := _) (v := ?_) rfl (by kernel_rfl) (by kernel_rfl) (by kernel_rfl) (fun _ _ _ h => h) (Or.inl ⟨by rfl, ?_⟩) hHeld ?_
          rotate_left
          · intro w' hSw
            (try dsimp only at hSw)
            go_simp
            try with_reducible rfl
          try simp only [Act.put, List.setIfInBounds_toArray, List.set_cons_zero, List.set_cons_succ, List.getElem_toArray, List.getElem_cons_zero, List.getElem_cons_succ]
          refine wpAnyH_take (i := 16) (oi := _) (v := ?_) rfl (by kernel_rfl) (by kernel_rfl) (by kernel_rfl) (fun _ _ _ h => h) (Or.inl ⟨by rfl, ?_⟩) hHeld ?_
          rotate_left
          · intro w' hSw
            (try dsimp only at hSw)
            go_simp
            try with_reducible rfl
          try simp only [Act.put, List.setIfInBounds_toArray, List.set_cons_zero, List.set_cons_succ, List.getElem_toArray, List.getElem_cons_zero, List.getElem_cons_succ]
          refine wpAnyH_take (i := 17) (oi := _) (v := ?_) rfl (by kernel_rfl) (by kernel_rfl) (by kernel_rfl) (fun _ _ _ h => h) (Or.inl ⟨by rfl, ?_⟩) hHeld ?_
          rotate_left
          · intro w' hSw
            (try dsimp only at hSw)
            go_simp
            try with_reducible rfl
          try simp only [Act.put, List.setIfInBounds_toArray, List.set_cons_zero, List.set_cons_succ, List.getElem_toArray, List.getElem_cons_zero, List.getElem_cons_succ]
          refine wpAnyH_done (by kernel_rfl) ?_ _
          have HK := hide (Sat.keep_all S9.drop.drop.drop.drop.drop)
          clear S7 S9 z9
          go_wp2_with fail
          go_ret
          exact ⟨rfl, HK.out⟩
        exact AllReadyH.nil

end Go.Proofs.YthgiamofndhehaaGreatDoor
