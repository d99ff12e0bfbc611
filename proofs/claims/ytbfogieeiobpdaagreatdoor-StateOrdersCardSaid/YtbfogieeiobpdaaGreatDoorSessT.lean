/- Contracts of the package sess in pieces of memory: all numbers, a table as bytes, and back. No condition. -/
import Derived.Test.YtbfogieeiobpdaaGreatDoorSessAll
import Derived.Test.YtbfogieeiobpdaaGreatDoorPithM
import Derived.Test.YtbfogieeiobpdaaGreatDoorTook
set_option linter.unusedVariables false
namespace Go.Proofs.YtbfogieeiobpdaaGreatDoor
open Go.RowKit

section
variable {g w w' : World} {L : List Asn} {t mb : Nat} {m m' : Tab}
abbrev boxA (t mb : Nat) : Asn := cellsA t 168 #[.map (some mb)]
abbrev tabA (mb : Nat) (m : Tab) : Asn := mapA kI evS mb m
theorem Sat.tb (S : Sat g w (boxA t mb :: tabA mb m :: L)) : Tb w t mb m := ⟨S.cells_get, S.drop.mapOf⟩
theorem Sat.tbPut (S : Sat g w (boxA t mb :: tabA mb m :: L)) (hk : Keeps (fun k => k = mb) w w') (hT : Tb w' t mb m') : Sat g w' (boxA t mb :: tabA mb m' :: L) := (S.p1.mapPut hk hT.map).p1
theorem Sat.newRow {e : TypeId} {size n : Nat} {v : Value} {xs : List Value} (S : Sat g w L) (hk : Keeps (fun _ => False) w w') (hr : w'.ownsRow w.heap.size e size v n xs) : Sat g w' (rowA e size v n xs :: L) := by
  obtain ⟨hl, hr⟩ := hr
  rcases hr with ⟨rfl, rfl⟩ | ⟨b, cap, cur, rfl, hb, hg, q1, q2, q3, q4⟩
  · have := (S.keep hk).nilRow e size
    have h0 : xs = [] := by simpa using hl
    subst h0
    exact this
  · exact S.new hk (hone b (.cells cur e (0, 0)) true) ⟨hl, .inr ⟨b, cap, cur, rfl, q1, q2, q3, q4, rfl⟩⟩ (hone_mem hg) (fun k hk => by unfold hone; rw [if_neg (by omega)])
theorem Sat.srcOf {e : TypeId} {size n : Nat} {A : Option Addr} {cap : Nat} {xs : List Value} (S : Sat g w (rowA e size (.slice A n cap) n xs :: L)) : Src w size A n xs := by
  obtain ⟨A', cap', e', _, _, hsrc, _⟩ := S.row.form
  injection e' with e1 e2 e3
  subst e1
  exact hsrc
theorem s_new (S : Sat g w L) : Calls Tryz.prog 72 #[] w fun e w' => ∃ t mb, e = .returned (ptr t) ∧ Sat g w' (boxA t mb :: tabA mb [] :: L) := by
  have hmm := @run_makeMap Tryz.prog
  go_enter Tryz.func72, Tryz.ntmps72
  go_wp2_with fail
  go_ret
  refine ⟨w.heap.size + 1, w.heap.size, rfl, ?_⟩
  have h1 : Sat g (w.alloc (.map #[] 0)) (tabA w.heap.size [] :: L) := S.mapNew ((Keeps.refl _ w).alloc _) (Nat.le_refl _) (MapOf.made kI evS w)
  exact h1.box #[.map (some w.heap.size)] 168 (by simp)
theorem s_all (S : Sat g w (boxA t mb :: tabA mb m :: L)) (hk : ∀ k ∈ keys m, 1 ≤ k ∧ k ≤ 281474976710655) (hl : m.length ≤ 1000) :
    Calls Tryz.prog 110 #[ptr t] w fun e w' => ∃ A cap, e = .returned (.slice A m.length cap) ∧ Sat g w' (rowA 3 1 (.slice A m.length cap) m.length (Is (sortI (keys m))) :: boxA t mb :: tabA mb m :: L) := by
  refine (all_row w t mb m S.tb hk (by omega)).mono ?_
  rintro e w' ⟨v, rfl, hrow, hk⟩
  have S' := S.newRow hk hrow
  obtain ⟨A, cap, rfl, _⟩ := S'.row.form
  exact ⟨A, cap, rfl, S'⟩
end

def tabOk (m : Tab) : Prop := ∀ k ∈ keys m, 1 ≤ k ∧ k ≤ 281474976710655

/-! ### plain: a table as bytes, and back -/
def entB (p : Int × Ses) : List UInt8 := nums [p.1, p.2.1] ++ txts [p.2.2]
/-- the table in order -/
def normT (m : Tab) : Tab := (sortI (keys m)).map fun k => (k, (mget m k).getD (0, []))
def layB (m : Tab) : List UInt8 := nums [(m.length : Int)] ++ (normT m).flatMap entB

theorem entB_le (p : Int × Ses) : (entB p).length ≤ 65549 := by
  have h := txts_le [p.2.2]
  have h : (txts [p.2.2]).length ≤ 65537 := h
  simp only [entB, List.length_append, nums_length, List.length_cons, List.length_nil]
  omega
theorem ents_le (m : Tab) : (m.flatMap entB).length ≤ 65549 * m.length := by
  induction m with
  | nil => simp
  | cons p r ih =>
    have := entB_le p
    simp only [List.flatMap_cons, List.length_append, List.length_cons]
    omega
theorem sortI_length (l : List Int) : (sortI l).length = l.length := by simp [sortI]
theorem sortI_mem (l : List Int) (x : Int) : x ∈ sortI l ↔ x ∈ l := by simp [sortI]
theorem normT_length (m : Tab) : (normT m).length = m.length := by simp [normT, sortI_length]
theorem normT_at (m : Tab) (k : Nat) (x : Int) (h : (sortI (keys m))[k]? = some x) : (normT m)[k]? = some (x, (mget m x).getD (0, [])) := by
  simp [normT, h]
theorem take_flat {α β : Type} (f : α → List β) (l : List α) (k : Nat) (a : α) (h : l[k]? = some a) : (l.take (k + 1)).flatMap f = (l.take k).flatMap f ++ f a := by
  obtain ⟨hk, rfl⟩ := List.getElem?_eq_some_iff.1 h
  rw [List.take_succ_eq_append_getElem hk, List.flatMap_append]
  simp

set_option maxRecDepth 100000 in
set_option maxHeartbeats 4000000 in
theorem s_lay {g w : World} {L : List Asn} {t mb : Nat} {m : Tab} {v : Value} {l : List UInt8} (S : Sat g w (bytesA v l :: boxA t mb :: tabA mb m :: L)) (hk : tabOk m) (hl : m.length ≤ 16) (hb : l.length ≤ 1000000) :
    Calls Tryz.prog 73 #[ptr t, v] w fun e w' => ∃ v', e = .returned v' ∧ Sat g w' (bytesA v' (l ++ layB m) :: boxA t mb :: tabA mb m :: L) := by
  have HLK : Hid (∀ (w' : World) (L' : List Asn) (id req : Int) (a : List UInt8), Sat g w' L' → boxA t mb ∈ L' → tabA mb m ∈ L' → mget m id = some (req, a) → w'.cell? ⟨t, 0, none⟩ = some (.map (some mb)) ∧ (Instr.lookup 166 (.map (some mb)) (.int .i64 id) false).run Tryz.prog w' = .ok (.agg #[.int .i64 req, .string (Go.Proofs.YtbfogieeiobpdaaGreatDoor.S a)]) w') := by
    intro w' L' id req a S' h1 h2 h3
    refine ⟨S'.cell_of h1 0 _ rfl, ?_⟩
    obtain ⟨L2, S2⟩ := S'.mem_ h2
    exact S2.mapOf.look_some kT Tryz.underlying166 h3 false
  have HKS := hide hk
  clear hk
  go_enter Tryz.func73, Tryz.ntmps73
  go_wp2_with fail
  refine (s_all S.b2 HKS.out (by omega)).mono ?_
  rintro e w1 ⟨A, cap, rfl, S1⟩
  go_wp2_with fail
  refine (s_num [(m.length : Int)] ((S1.p3).box _ _ rfl) rfl (by omega) (by simp)).mono ?_
  rintro e w2 ⟨v2, rfl, S2⟩
  have HE : Hid (layB m = nums [(m.length : Int)] ++ (normT m).flatMap entB) := rfl
  have hnl : (l ++ nums [(m.length : Int)]).length ≤ 1000006 := by rw [List.length_append, nums_length]; simp; omega
  generalize hN : l ++ nums [(m.length : Int)] = N at *
  have HN := hide hN
  clear hN
  have hnt := normT_length m
  go_wp2_with fail
  go_loopw [1, 17] (fun b i wr => ∃ k : Nat, k ≤ m.length ∧ i = .int .i64 k ∧ Sat g wr (bytesA b (N ++ ((normT m).take k).flatMap entB) :: rowA 3 1 (.slice A m.length cap) m.length (Is (sortI (keys m))) :: boxA t mb :: tabA mb m :: L)) (fun _ i _ => m.length - (RowKit.intOf i).toNat)
  case atStart => exact ⟨0, by omega, rfl, by simpa using S2⟩
  case round =>
    obtain ⟨k, hk, rfl, S3⟩ := hrel
    have hle := ents_le ((normT m).take k)
    have hle2 : ((normT m).take k).length ≤ k := List.length_take_le _ _
    by_cases hlt : k < m.length
    · have hsrc := S3.p1.srcOf
      obtain ⟨ad, u, rfl, hu, hc⟩ := hsrc.at_ hlt
      simp only [Is, List.getElem?_map, Option.map_eq_some_iff] at hu
      obtain ⟨id, hid, rfl⟩ := hu
      have hmem : id ∈ keys m := (sortI_mem _ _).1 (List.mem_of_getElem? hid)
      obtain ⟨⟨req, a⟩, hg⟩ := mem_keys_mget.1 hmem
      have ht := take_flat entB _ k _ (normT_at m k id hid)
      rw [hg] at ht
      simp only [Option.getD_some] at ht
      have HT := hide ht
      obtain ⟨q1, q2⟩ := HLK.out wr _ id req a S3 (by simp) (by simp) hg
      have HG := hide hg
      clear ht hid hmem hg hsrc S1 S2
      generalize hLL : ((normT m).take k).flatMap entB = LL at *
      have HLL := hide hLL
      clear hLL
      have hln : (N ++ LL).length ≤ 3000000 := by rw [List.length_append]; omega
      have hln2 : (N ++ LL ++ nums [id, req]).length ≤ 3000012 := by rw [List.length_append, nums_length]; simp; omega
      clear hle hle2
      have hf0 : ∀ w, (Instr.field 164 (.agg #[.int .i64 req, .string (Go.Proofs.YtbfogieeiobpdaaGreatDoor.S a)]) 0).run Tryz.prog w = .ok (.int .i64 req) w := fun w => by kernel_rfl
      have hf1 : ∀ w, (Instr.field 164 (.agg #[.int .i64 req, .string (Go.Proofs.YtbfogieeiobpdaaGreatDoor.S a)]) 1).run Tryz.prog w = .ok (.string (Go.Proofs.YtbfogieeiobpdaaGreatDoor.S a)) w := fun w => by kernel_rfl
      go_upto_region 6 with fail
      go_region_held3 (fun w' => w'.cell? ⟨t, 0, none⟩ = some (.map (some mb)) ∧ (Instr.lookup 166 (.map (some mb)) (.int .i64 id) false).run Tryz.prog w' = .ok (.agg #[.int .i64 req, .string (Go.Proofs.YtbfogieeiobpdaaGreatDoor.S a)]) w') (first | exact HLK.out _ _ _ _ _ (Sat.keep S5 (by (repeat (first | exact Keeps.refl _ _ | refine Keeps.alloc ?_ _ | refine Keeps.drew ?_ | refine Keeps.drewN ?_ _)))) (by simp) (by simp) HG.out | exact HLK.out _ _ _ _ _ (Sat.keep S4 (by (repeat (first | exact Keeps.refl _ _ | refine Keeps.alloc ?_ _ | refine Keeps.drew ?_ | refine Keeps.drewN ?_ _)))) (by simp) (by simp) HG.out | exact HLK.out _ _ _ _ _ (Sat.keep S3 (by (repeat (first | exact Keeps.refl _ _ | refine Keeps.alloc ?_ _ | refine Keeps.drew ?_ | refine Keeps.drewN ?_ _)))) (by simp) (by simp) HG.out) (first
        | (go_at_call 41; refine (s_num [id, req] (g := g) (l := N ++ LL) (by (repeat (first | refine Sat.drew ?_ | refine Sat.drewN ?_ _)); first | exact S3.box _ _ rfl | exact ((S3.box _ _ rfl).box _ _ (b := wr.heap.size + 1) (by simp)).b2 | exact ((S3.box _ _ rfl).p1).box _ _ (by simp)) rfl (by omega) (by simp)).mono ?_; rintro e w4 ⟨v4, rfl, S4⟩; obtain ⟨q1, q2⟩ := HLK.out _ _ _ _ _ S4 (by simp) (by simp) HG.out)
        | (go_at_call 54; refine (s_text [a] (g := g) (l := N ++ LL ++ nums [id, req]) (by (repeat (first | refine Sat.drew ?_ | refine Sat.drewN ?_ _)); first | exact S4.box _ _ rfl | exact S4.p1) rfl (by omega) (by simp)).mono ?_; rintro e w5 ⟨v5, rfl, S5⟩; obtain ⟨q1, q2⟩ := HLK.out _ _ _ _ _ S5 (by simp) (by simp) HG.out))
      all_goals
        go_wp2_with fail
        go_roundw
        case rel =>
          refine ⟨k + 1, by omega, by go_num, ?_⟩
          rw [HT.out, ← List.append_assoc]
          simp only [entB, List.append_assoc] at S5 ⊢
          exact S5
        case measure => simp [RowKit.intOf]; omega
    · obtain rfl : k = m.length := by omega
      rw [← hnt, List.take_length] at S3
      have HF : Hid (N ++ (normT m).flatMap entB = l ++ layB m) := by
        show _ = _
        rw [HE.out, ← HN.out, List.append_assoc]
      rw [HF.out, hnt] at S3
      go_wp2_with fail
      go_ret
      exact ⟨_, rfl, S3.p1.drop⟩

end Go.Proofs.YtbfogieeiobpdaaGreatDoor
