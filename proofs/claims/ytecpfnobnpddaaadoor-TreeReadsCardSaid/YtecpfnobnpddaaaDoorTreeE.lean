/- Contracts of the package tree: Kids. No condition. -/
import Derived.Test.YtecpfnobnpddaaaDoorTreeD
import Derived.Test.YtecpfnobnpddaaaDoorRange
import Derived.Test.YtecpfnobnpddaaaDoorTSort
import Derived.Test.YtecpfnobnpddaaaDoorTSer
set_option linter.unusedVariables false
set_option linter.unusedSimpArgs false
namespace Go.Proofs.YtecpfnobnpddaaaDoor
open Go.RowKit

theorem slStr : Sl Tryd.prog 59 9 1 16 (.string ⟨#[]⟩) := .mk' Tryd.underlying59 (by kernel_rfl) rfl (by decide)

/-- the last parts of those below s -/
def kidsF (T : TreeT) (s : List UInt8) : List (List UInt8) := if (getF T s).2 = 0 then sortB (kidL T s) else []
theorem kidL_nil (s : List UInt8) : kidL [] s = [] := rfl
theorem kidL_cons (p : List UInt8 × NodeT) (T : TreeT) (s : List UInt8) : kidL (p :: T) s = if (upF p.1).1 = s then (upF p.1).2 :: kidL T s else kidL T s := by
  unfold kidL
  by_cases h : (upF p.1).1 = s
  · rw [List.filter_cons_of_pos (by simpa using h), if_pos h, List.map_cons]
  · rw [List.filter_cons_of_neg (by simpa using h), if_neg h]
theorem kidL_length (T : TreeT) (s : List UInt8) : (kidL T s).length ≤ T.length := by
  unfold kidL
  rw [List.length_map]
  exact List.length_filter_le _ _
theorem kidL_perm {T T' : TreeT} (h : T.Perm T') (s : List UInt8) : (kidL T s).Perm (kidL T' s) := (h.filter _).map _
theorem mdel_none {κ α : Type} [DecidableEq κ] {m : List (κ × α)} {k : κ} (h : k ∉ keys m) : mdel m k = m := by
  unfold mdel
  rw [List.filter_eq_self]
  intro q hq
  simp only [ne_eq, decide_eq_true_eq]
  exact fun e => h (List.mem_map.2 ⟨q, hq, e⟩)
theorem mdel_perm {κ α : Type} [DecidableEq κ] : ∀ {m : List (κ × α)} {k : κ} {v : α}, (keys m).Nodup → (k, v) ∈ m → m.Perm ((k, v) :: mdel m k)
  | [], _, _, _, h => by cases h
  | p :: m, k, v, hn, h => by
    simp only [keys, List.map_cons, List.nodup_cons] at hn
    by_cases hp : p.1 = k
    · have e : mdel (p :: m) k = m := by
        have h1 : mdel (p :: m) k = mdel m k := by simp [mdel, hp]
        rw [h1, mdel_none]
        intro h2
        exact hn.1 (by rw [hp]; exact h2)
      rw [e]
      rcases List.mem_cons.1 h with rfl | h'
      · exact List.Perm.refl _
      · exact absurd (List.mem_map.2 ⟨_, h', rfl⟩) (hp ▸ hn.1)
    · rcases List.mem_cons.1 h with rfl | h'
      · exact absurd rfl hp
      · rw [mdel_head hp]
        exact ((mdel_perm hn.2 h').cons p).trans (List.Perm.swap _ _ _)
theorem sortB_eq {l m : List (List UInt8)} (h : l.Perm m) : sortB l = sortB m := by
  have htr : ∀ a b c : List UInt8, decide (a ≤ b) = true → decide (b ≤ c) = true → decide (a ≤ c) = true := by
    intro a b c h1 h2
    simp only [decide_eq_true_eq] at *
    exact List.le_trans h1 h2
  have hto : ∀ a b : List UInt8, (decide (a ≤ b) || decide (b ≤ a)) = true := by
    intro a b
    simp only [Bool.or_eq_true, decide_eq_true_eq]
    exact List.le_total a b
  refine List.Perm.eq_of_pairwise (le := fun a b => decide (a ≤ b) = true) ?_ (List.pairwise_mergeSort htr hto l) (List.pairwise_mergeSort htr hto m) ((sortB_perm l).trans (h.trans (sortB_perm m).symm))
  intro a b _ _ h1 h2
  simp only [decide_eq_true_eq] at h1 h2
  exact List.le_antisymm h1 h2

def PathsOk (T : TreeT) : Prop := ∀ p ∈ T, p.1.length ≤ 1000

section
variable {g w : World} {L : List Asn} {b mb x : Nat} {T : TreeT}
set_option maxRecDepth 100000 in
set_option maxHeartbeats 4000000 in
theorem kids_tree (S0 : Sat g w (treeA b T :: L)) (hG : GL w) (hP : PathsOk T) (hT : T.length ≤ 1000000) (s : List UInt8) (hs : s.length ≤ 9223372036854775807) :
    Calls Tryd.prog 57 #[ptr b, .string (S s)] w fun e w' => ∃ v, e = .returned (.tuple #[v, .int .i64 (getF T s).2]) ∧ Sat g w' (rowA 9 1 v (kidsF T s).length (Ss (kidsF T s)) :: treeA b T :: L) := by
  have hget := get_tree S0 hG s hs
  have HF : Hid (kidsF T s = if (getF T s).2 = 0 then sortB (kidL T s) else []) := rfl
  generalize kidsF T s = KF at *
  generalize getF T s = G at *
  obtain ⟨n, e0⟩ := G
  simp only at hget HF
  have hnd := S0.treeNodup
  have HP := hide hP
  clear hP
  go_enter Tryd.func57, Tryd.ntmps57
  go_wp2_with fail
  refine hget.mono ?_
  rintro e w2 ⟨rfl, S2⟩
  clear hget S0 hG
  go_upto_region 2 with fail
  have S3 := (S2.box (nodC n) 30 rfl).drop
  generalize w2.alloc (.cells (nodC n) 30) = w3 at *
  generalize w2.heap.size = xb at *
  clear S2
  by_cases h0 : e0 = 0
  · subst h0
    have e : KF = sortB (kidL T s) := by rw [HF.out, if_pos rfl]
    subst e
    clear HF
    obtain ⟨mb, S4⟩ := S3.treeOpen
    clear S3
    have c0 := S4.cell 0 _ rfl
    have S5 := S4.p1
    go_wp2_with (refine wpList_srange rfl _ _ rfl Tryd.underlying71 S5 rfl ?_; intro w4 S6)
    generalize w3.heap.size = ri at *
    clear S4 S5 c0
    go_simp
    go_loopw [8] (fun v wr => ∃ (xs : List (List UInt8)) (lf : TreeT), (xs ++ kidL lf s).Perm (kidL T s) ∧ Sat g wr (rangeA kS nodV mb ri T lf :: rowA 9 1 v xs.length (Ss xs) :: cellsA b 73 #[.map (some mb)] :: L)) (fun _ wr => wr.rangeLeft mb ri)
    case atStart => exact ⟨[], T, List.Perm.refl _, (S6.p1.nilRow 9 1).p2⟩
    case round =>
      obtain ⟨xs, lf, hperm, S7⟩ := hrel
      clear S6
      have hsub := S7.rangeSub
      have hnl : (keys lf).Nodup := hnd.sublist (hsub.map _)
      have hlen : xs.length ≤ 1000000 := by
        have h1 := hperm.length_eq
        rw [List.length_append] at h1
        have := kidL_length T s
        omega
      have hml := S7.rangeLeft
      have HQ := hide hperm
      clear hperm
      go_wp2_with (at_next; refine wpList_snext rfl _ rfl kTS S7 rfl ?_ ?_)
      · intro hl0
        subst hl0
        have S8 := S7.rangeEnd.p1
        clear S7
        go_wp2_with fail
        refine (sort_strs S8 hlen).mono ?_
        rintro e w5 ⟨rfl, S9⟩
        have e1 : sortB xs = sortB (kidL T s) := sortB_eq (by have := HQ.out; rwa [kidL_nil, List.append_nil] at this)
        have e2 : xs.length = (sortB (kidL T s)).length := by rw [← e1, sortB_length]
        rw [e1, e2] at S9
        have HS := hide (S9.p2.p2.p1.treeShut.p1)
        clear S8 S9 e1 e2
        go_wp2_with fail
        go_ret2
        exact ⟨_, rfl, HS.out⟩
      · intro k nv w5 hm1 hm2 S8 hlt hen
        have hkl : k.length ≤ 1000 := HP.out _ hm2
        have hpl := mdel_perm hnl hm1
        have hkp := kidL_perm hpl s
        rw [kidL_cons] at hkp
        have HKP := hide hkp
        have HML := hide hml
        have HLT := hide hlt
        clear S7 hkp hpl hml hlt hm1 hm2 hsub hnl
        go_wp2_with fail
        refine (up_path w5 k (by omega)).mono ?_
        rintro e w6 ⟨rfl, hk6⟩
        have S9 := S8.keep hk6
        clear S8 hk6 hen
        obtain ⟨A, c, rfl, -⟩ := S9.p1.row.form
        by_cases hup : (upF k).1 = s
        · have hub : ((upF k).1 == s) = true := by simpa using hup
          have hkp := HKP.out
          rw [if_pos hup] at hkp
          have HKP2 := hide hkp
          clear HKP hkp
          generalize (upF k).1 = up at *
          generalize (upF k).2 = last at *
          clear hup
          go_wp2_with (at_builtin; refine wpList_sapp slStr rfl (.tmp 38) (.tmp 40) rfl (g := g) (S := (S9.box #[.string (S last)] 9 rfl).p2) rfl (Src.block (heap_alloc_new _ _) 1 1 rfl) rfl (by simp [Value.oneCell']) (by unfold maxLen; omega) (by omega) ?_; intro A5 c5 w7 S10)
          go_roundw
          case rel =>
            refine ⟨xs ++ [last], mdel lf k, ?_, ?_⟩
            · rw [List.append_assoc]
              exact (HKP2.out.symm.append_left xs).trans HQ.out
            · have := S10.p1.drop.p1
              simpa [Ss] using this
          case measure => rw [S10.p2.rangeLeft, HML.out]; exact HLT.out
        · have hub : ((upF k).1 == s) = false := by simpa using hup
          have hkp := HKP.out
          rw [if_neg hup] at hkp
          have HKP2 := hide hkp
          clear HKP hkp
          go_wp2_with fail
          go_roundw
          case rel => exact ⟨xs, mdel lf k, (HKP2.out.symm.append_left xs).trans HQ.out, S9⟩
          case measure => rw [S9.rangeLeft, HML.out]; exact HLT.out
  · have h0b : (e0 != 0) = true := by simpa using h0
    have e : KF = [] := by rw [HF.out, if_neg h0]
    subst e
    clear HF
    go_wp2_with fail
    go_ret2
    exact ⟨_, rfl, S3.nilRow _ _⟩
end
end Go.Proofs.YtecpfnobnpddaaaDoor
