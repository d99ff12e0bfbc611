/- The model of the statements of layer 9: Create. No condition. -/
import Derived.Test.YtecpfnobnpddaaaGreatDoorTModC
import Derived.Test.YtecpfnobnpddaaaGreatDoorFullM
set_option linter.unusedVariables false
set_option linter.unusedSimpArgs false
namespace Go.Proofs.YtecpfnobnpddaaaGreatDoor
open Go.RowKit

theorem Src.zeroT {w : World} {size : Nat} {A : Option Addr} {n : Nat} {xs : List Value} (hn : n = 0) (hx : xs = []) : Src w size A n xs := by
  subst hn hx
  exact Src.empty
theorem oneEn (M : TreeT) : ∀ u ∈ M.flatMap entC, u.oneCell' = true := flatK_one (fun a u hu => by simp [entC] at hu; rcases hu with rfl | rfl | rfl | rfl | rfl | rfl | rfl | rfl <;> rfl) M
/-- append onto a slice without room -/
theorem wpList_sfull {P : Program} {t e : TypeId} {size bytes : Nat} {z : Value} (K0 : Sl P t e size bytes z) {g w : World} {L : List Asn} {ops : Array Oper} {rest : List Oper} {o : Oper} {a : Act} {Q : Exit → Act → World → Prop} (hgd : o.guard = none) (s x : Operand)
    (ho : o.op = .call { callee := .builtin .append, args := #[s, x], argTypes := #[t, t] })
    {B : Option Addr} {n : Nat} {xs : List Value} (S : Sat g w L) (hB : Src w size B n xs) (hnil : B = none → n = 0) (hs : a.eval s = .slice B n n) {A : Option Addr} {m c : Nat} {news : List Value} (hsrc : Src w size A m news) (hm : 0 < m) (hx : a.eval x = .slice A m c)
    (h63 : n + m ≤ maxLen) (hbytes : (n + m) * bytes ≤ 140737488355328)
    (h : ∀ A' c' w', Sat g w' (rowA e size (.slice A' (n + m) c') (n + m) (xs ++ news) :: L) → wpList P ops Q rest (a.put o.dst (.slice A' (n + m) c')) w') : wpList P ops Q (o :: rest) a w := by
  refine wpList_plain hgd fun K hK => ?_
  obtain ⟨v', w', hr, h2, h3⟩ := run_full K0 hB hnil (c := c) hsrc hm h63 hbytes o.type
  unfold Oper.wp execOp
  simp only [ho, resolve, invoke, builtin, Sem.run_bind, Sem.run_pure, Result.andThen_ok, List.map_toArray, List.map_cons, List.map_nil, hs, hx, hr]
  have S' := S.ownRow h3 h2
  obtain ⟨A', c', e', _⟩ := Row.form S'.row
  subst e'
  exact hK _ _ (h _ _ _ S')

/-- a node laid into the order -/
def insN (M : TreeT) (s : List UInt8) (n : NodeT) : TreeT := M.takeWhile (fun p => Op.bytesLess p.1 s) ++ (s, n) :: M.dropWhile (fun p => Op.bytesLess p.1 s)
theorem insN_at {M : TreeT} (s : List UInt8) (n : NodeT) {k : Nat} (h1 : ∀ q ∈ M.take k, Op.bytesLess q.1 s = true) (h2 : ∀ p, M[k]? = some p → Op.bytesLess p.1 s = false) : insN M s n = M.take k ++ (s, n) :: M.drop k := by
  unfold insN
  induction M generalizing k with
  | nil => simp
  | cons p M ih =>
    cases k with
    | zero =>
      have := h2 p rfl
      simp [this]
    | succ k =>
      have hp := h1 p (by simp)
      have := ih (k := k) (fun q hq => h1 q (by simp [hq])) (fun q hq => h2 q (by simpa using hq))
      simp [hp, this]
def createM (M : TreeT) (s data : List UInt8) (owner when_ : Int) (serial : Bool) : List UInt8 × Int × TreeT :=
  if (createF M s data owner when_ serial).2.1 = 0 then ((createF M s data owner when_ serial).1, 0, insN (mput M (upF s).1 (moreN ((mget M (upF s).1).getD zN) serial)) (createF M s data owner when_ serial).1 (newN data owner when_)) else createF M s data owner when_ serial

section
variable {g w : World} {L : List Asn} {b : Nat} {M : TreeT} {v : Value}
set_option maxRecDepth 100000 in
set_option maxHeartbeats 16000000 in
theorem create_mod (S0 : Sat g w (modA b M :: L)) (hG : GL g) (hm : oldA g ∈ L) (hl : M.length ≤ 1000000) (hn : (keys M).Nodup) (s data : List UInt8) (owner when_ : Int) (serial : Bool) (hs : s.length ≤ 140737488350000) (hd : data.length ≤ 140737488350000)
    (hb : ∀ a, mget M (upF s).1 = some a → 0 ≤ a.serial ∧ a.serial < 100 ∧ 0 ≤ a.below ∧ a.below ≤ 1000000) :
    Calls Tryz.prog 59 #[ptr b, .string (S s), .string (S data), .int .i64 owner, .int .i64 when_, .bool serial] w fun e w' =>
      e = .returned (.tuple #[.string (S (createM M s data owner when_ serial).1), .int .i64 (createM M s data owner when_ serial).2.1]) ∧ Sat g w' (modA b (createM M s data owner when_ serial).2.2 :: L) := by
  have HR : Hid (∀ r, createM M s data owner when_ serial = r → ∀ w', Sat g w' (modA b r.2.2 :: L) → Ending.returned (.tuple #[.string (S r.1), .int .i64 r.2.1]) = Ending.returned (.tuple #[.string (S (createM M s data owner when_ serial).1), .int .i64 (createM M s data owner when_ serial).2.1]) ∧ Sat g w' (modA b (createM M s data owner when_ serial).2.2 :: L)) :=
    hide fun r h w' S' => by subst h; exact ⟨rfl, S'⟩
  have HF : Hid (createF M s data owner when_ serial = if checkF s ≠ 0 then ([], checkF s, M) else if s = [47] then ([], 12, M) else if 60 < data.length then ([], 3, M) else
    match mget M (upF s).1 with
    | none => ([], 11, M)
    | some a => if a.owner ≠ 0 then ([], 15, M) else
      if serial = true then (if checkF (serialF s a.serial) ≠ 0 then ([], 10, M) else createG M (serialF s a.serial) (upF s).1 a data owner when_ true)
      else createG M s (upF s).1 a data owner when_ false) := rfl
  have HRF : Hid (∀ r, createF M s data owner when_ serial = r → r.2.1 ≠ 0 → createM M s data owner when_ serial = r) := hide fun r h h2 => by
    unfold createM
    rw [h, if_neg h2]
  have HRS : Hid (∀ nm T', createF M s data owner when_ serial = (nm, 0, T') → createM M s data owner when_ serial = (nm, 0, insN (mput M (upF s).1 (moreN ((mget M (upF s).1).getD zN) serial)) nm (newN data owner when_))) := hide fun nm T' h => by
    unfold createM
    rw [h, if_pos rfl]
  generalize createM M s data owner when_ serial = R at *
  generalize createF M s data owner when_ serial = F at *
  have hch := check_path w s (by omega) (hG.at S0 (by simp [hm]))
  have HGL : Hid (∀ {w : World} {L' : List Asn}, Sat g w L' → oldA g ∈ L' → GL w) := fun S h => hG.at S h
  clear hG
  rcases check_cases s with hc | hc
  · rw [hc] at hch
    have HF2 : Hid (F = if s = [47] then ([], 12, M) else if 60 < data.length then ([], 3, M) else
      match mget M (upF s).1 with
      | none => ([], 11, M)
      | some a => if a.owner ≠ 0 then ([], 15, M) else
        if serial = true then (if checkF (serialF s a.serial) ≠ 0 then ([], 10, M) else createG M (serialF s a.serial) (upF s).1 a data owner when_ true)
        else createG M s (upF s).1 a data owner when_ false) := hide (by rw [HF.out, if_neg (by simp [hc])])
    clear HF hc
    have hup := fun w => up_path w s (by omega)
    generalize (upF s).1 = up at *
    generalize (upF s).2 = last at *
    go_enter Tryz.func59, Tryz.ntmps59
    go_wp2_with fail
    refine hch.mono ?_
    rintro e w1 ⟨rfl, hk1⟩
    have S1 := S0.keep hk1
    clear hch S0 hk1
    by_cases h47 : s = [47]
    · have h47b : (s == [47]) = true := by simpa using h47
      have e : F = ([], 12, M) := by rw [HF2.out, if_pos h47]
      have HE := hide (HRF.out _ e (by simp))
      clear e HF2 h47
      go_wp2_with fail
      go_ret2
      exact HR.out ([], 12, M) HE.out _ S1
    · have h47b : (s == [47]) = false := by simpa using h47
      by_cases h60 : 60 < data.length
      · have e : F = ([], 3, M) := by rw [HF2.out, if_neg h47, if_pos h60]
        have HE := hide (HRF.out _ e (by simp))
        clear e HF2 h47
        go_wp2_with fail
        go_ret2
        exact HR.out ([], 3, M) HE.out _ S1
      · have HF3 : Hid (F = match mget M up with
          | none => ([], 11, M)
          | some a => if a.owner ≠ 0 then ([], 15, M) else
            if serial = true then (if checkF (serialF s a.serial) ≠ 0 then ([], 10, M) else createG M (serialF s a.serial) up a data owner when_ true)
            else createG M s up a data owner when_ false) := hide (by rw [HF2.out, if_neg h47, if_neg h60])
        clear HF2 h47
        go_wp2_with fail
        refine (hup w1).mono ?_
        rintro e w2 ⟨rfl, hk2⟩
        have S2 := S1.keep hk2
        clear hup S1 hk2
        by_cases hin : up ∈ keys M
        · obtain ⟨a, h1, h2, h3⟩ := find_at hin
          have hff : findF M up = (findN M up : Int) := by unfold findF; rw [if_pos hin]
          have HF4 : Hid (F = if a.owner ≠ 0 then ([], 15, M) else
            if serial = true then (if checkF (serialF s a.serial) ≠ 0 then ([], 10, M) else createG M (serialF s a.serial) up a data owner when_ true)
            else createG M s up a data owner when_ false) := hide (by rw [HF3.out, h2])
          have HSP : Hid (mput M up (moreN ((mget M up).getD zN) serial) = M.set (findN M up) (up, moreN a serial)) := hide (by rw [h2, set_put hn hin]; rfl)
          obtain ⟨hb0, hb1, hb2, hb3⟩ := hb a h2
          obtain ⟨A, c, S3⟩ := S2.modOpen
          obtain ⟨ad, -, rfl, -⟩ := ent_at S3.p1.srcT rfl h3
          obtain ⟨rb, rfl⟩ := S3.p1.row_zero
          have hcap : M.length ≤ c := by
            obtain ⟨_, _, _, q, _⟩ := S3.p1.rowOpen
            exact q
          have hfi := find_open S3 hl up
          rw [hff] at hfi
          have HAT := hide h1
          clear HF3 hb h1 h2 hin hff S2
          generalize findN M up = i at *
          have hi0 : (0 : Int) ≤ (i : Int) := by omega
          have hi1 : (i : Int) < (M.length : Int) := by omega
          go_wp2_with fail
          refine hfi.mono ?_
          rintro e w2 ⟨rfl, S2⟩
          clear hfi S3
          obtain ⟨d, ve, bl, ow, md, st, sr⟩ := a
          simp only at hb0 hb1 hb2 hb3 HF4
          have c0 := S2.cell 0 _ rfl
          have g4 := getE S2.p1 HAT.out 4 _ rfl (o := i * 8 + 1 + 3) (by omega)
          by_cases how : ow = 0
          · subst how
            cases serial
            · have HT : Hid (F = createG M s up ⟨d, ve, bl, 0, md, st, sr⟩ data owner when_ false) := hide (by rw [HF4.out, if_neg (by simp), if_neg (by simp)])
              clear HF4
              go_upto_region 17 with fail
              clear c0 g4
              by_cases hin2 : s ∈ keys M
              · obtain ⟨n2, -, hg2, -⟩ := find_at hin2
                have hff : findF M s = (findN M s : Int) := by unfold findF; rw [if_pos hin2]
                have hfi := find_open S2 hl s
                rw [hff] at hfi
                have hpos : (0 : Int) ≤ (findN M s : Int) := by omega
                have e : F = ([], 12, M) := by rw [HT.out]; exact createG_old hg2
                have HE := hide (HRF.out _ e (by simp))
                clear e hin2 hg2 hff
                generalize (findN M s : Int) = j at *
                go_wp2_with fail
                refine hfi.mono ?_
                rintro e w3 ⟨rfl, S3⟩
                clear hfi S2
                go_wp2_with fail
                go_ret2
                exact HR.out ([], 12, M) HE.out _ S3.modShut
              · have hff : findF M s = -1 := by unfold findF; rw [if_neg hin2]
                have hfi := find_open S2 hl s
                rw [hff] at hfi
                have HT2 : Hid (F = if 60 ≤ M.length then ([], 16, M) else (s, 0, mput (mput M up ⟨d, ve, bl + 1, 0, md, st, sr⟩) s ⟨data, 0, 0, owner, when_, when_, 0⟩)) := hide (by rw [HT.out]; exact createG_new (mget_none.2 hin2))
                clear HT hff hin2
                go_wp2_with fail
                refine hfi.mono ?_
                rintro e w2 ⟨rfl, S2⟩
                clear hfi
                have c0 := S2.cell 0 _ rfl
                by_cases h60 : 60 ≤ M.length
                · have e : F = ([], 16, M) := by rw [HT2.out, if_pos h60]
                  have HE := hide (HRF.out _ e (by simp))
                  clear e HT2
                  go_wp2_with fail
                  go_ret2
                  exact HR.out ([], 16, M) HE.out _ S2.modShut
                · have e : F = (s, 0, mput (mput M up ⟨d, ve, bl + 1, 0, md, st, sr⟩) s ⟨data, 0, 0, owner, when_, when_, 0⟩) := by rw [HT2.out, if_neg h60]
                  have HEF := hide (HRS.out _ _ e)
                  clear e HT2
                  have h60b : (M.length : Int) < 60 := by omega
                  go_upto_region 21 with fail
                  clear h60
                  go_upto_region 23 with fail
                  have c0 := S2.cell 0 _ rfl
                  have g3 := getE S2.p1 HAT.out 3 _ rfl (o := i * 8 + 1 + 2) (by omega)
                  have f3 := S2.p1.row_fz (i * 8 + 1 + 2)
                  go_upto_region 24 with fail
                  have S3 := (S2.p1.entSet 3 (up, ⟨d, ve, bl, 0, md, st, sr⟩) (up, ⟨d, ve, bl + 1, 0, md, st, sr⟩) (.int .i64 (bl + 1)) HAT.out (by decide) (entC_set3 up d ve bl (bl + 1) 0 md st (sr)) (o := i * 8 + 1 + 2) (by omega)).p1
                  generalize w2.setCell ⟨rb, i * 8 + 1 + 2, none⟩ (.int .i64 (bl + 1)) = w4 at *
                  have hl2 : (M.set i (up, ⟨d, ve, bl + 1, 0, md, st, sr⟩)).length = M.length := by simp
                  have HEF2 : Hid (R = (s, 0, insN (M.set i (up, ⟨d, ve, bl + 1, 0, md, st, sr⟩)) s (newN data owner when_))) := hide (by rw [HEF.out, HSP.out]; rfl)
                  clear S2 g3 f3 c0 HEF
                  have HEF := HEF2
                  clear HEF2
                  generalize M.set i (up, ⟨d, ve, bl + 1, 0, md, st, sr⟩) = M2 at *
                  go_wp2_with fail
                  go_loopw [17] (fun at_ wr => ∃ k : Nat, k ≤ M.length ∧ at_ = .int .i64 k ∧ (∀ q ∈ M2.take k, Op.bytesLess q.1 s = true) ∧ Sat g wr (cellsA b 69 #[.slice (some ⟨rb, 0, none⟩) M.length c] :: rowA 71 8 (.slice (some ⟨rb, 0, none⟩) M.length c) M.length (M2.flatMap entC) :: L)) (fun at_ _ => M.length + 1 - (RowKit.intOf at_).toNat)
                  case atStart => exact ⟨0, by omega, rfl, by simp, S3⟩
                  case round =>
                    clear S3
                    obtain ⟨k, hk, rfl, hlt, S3⟩ := hrel
                    have HLT := hide hlt
                    clear hlt
                    have c0 := S3.cell 0 _ rfl
                    by_cases hkn : k < M.length
                    · have hk0 : (0 : Int) ≤ (k : Int) := by omega
                      have hk1 : (k : Int) < (M.length : Int) := by omega
                      obtain ⟨ad', p, hA', hp, d0, -⟩ := ent_at S3.p1.srcT hl2 hkn
                      obtain rfl := Option.some.inj hA'
                      rw [addr_blk] at d0
                      have HP := hide hp
                      clear hp hA'
                      cases hles : Op.bytesLess p.1 s
                      · have HGE : Hid (∀ p, M2[k]? = some p → Op.bytesLess p.1 s = false) := hide fun q hq => by rw [HP.out] at hq; cases hq; exact hles
                        have hcc : ¬ c = k := by omega
                        have hins := insN_at s (newN data owner when_) HLT.out HGE.out
                        have HINS := hide hins
                        have hcl : (k : Int) ≤ (c : Int) := by omega
                        have hcl2 : (M.length : Int) ≤ (c : Int) := by omega
                        go_upto_region 27 with fail
                        have S4b := S3.box #[] 71 rfl
                        have SR := S4b.rowOf 8 0 rfl (Nat.zero_le _)
                        have hck : ¬ c = k := hcc
                        have hsrc := S4b.p2.srcT.suf k (by omega)
                        rw [flatK_drop (n := 8) (fun _ => rfl), addr_blk] at hsrc
                        have c0 := S4b.p1.cell 0 _ rfl
                        clear hins
                        go_wp2_with (first
                          | (at_builtin; refine wpList_sapp slE rfl (.tmp 120) (.tmp 126) rfl (g := g) (S := SR) rfl (hsrc) rfl (oneEn _) (by unfold maxLen; omega) (by omega) ?_; intro A5 c5 w5 S5; simp only [Nat.zero_add, List.nil_append] at S5; have c5' := S5.p1.cell 0 _ rfl; have hpre := (S5.box (entA (s, newN data owner when_)) 71 rfl).p3.srcT.pre k (by omega); rw [flatK_take (n := 8) (fun _ => rfl)] at hpre)
                          | (at_builtin; refine wpList_sfull slE rfl (.tmp 135) (.tmp 143) rfl (g := g) (S := S5.box (entA (s, newN data owner when_)) 71 rfl) hpre (by intro h; cases h) rfl (Src.block (heap_alloc_new _ _) 8 1 rfl) (by decide) rfl (by unfold maxLen; omega) (by omega) ?_; intro A6 c6 w6 S6)
                          | (at_builtin; refine wpList_sapp slE rfl (.tmp 144) (.tmp 145) rfl (g := g) (S := S6) rfl S6.p2.srcT rfl (oneEn _) (by unfold maxLen; omega) (by omega) ?_; intro A7 c7 w7 S7; have c7' := S7.p3.cell 0 _ rfl; have f7 := S7.p3.cells_fz 0))
                        go_ret2
                        have S8 := (S7.p3.setc 0 (.slice A7 (k + 1 + (M.length - k)) c7)).p2.drop.p2.drop.p2.drop
                        have hN : k + 1 + (M.length - k) = (insN M2 s (newN data owner when_)).length := by rw [HINS.out]; simp; omega
                        have hX : (M2.take k).flatMap entC ++ (entA (s, newN data owner when_)).toList ++ (M2.drop k).flatMap entC = (insN M2 s (newN data owner when_)).flatMap entC := by rw [HINS.out]; simp [entC, List.flatMap_append]
                        have S9 : Sat g (w7.setCell ⟨b, 0, none⟩ (.slice A7 (k + 1 + (M.length - k)) c7)) (modA b (insN M2 s (newN data owner when_)) :: L) := by
                          refine Sat.modShut (v := .slice A7 (insN M2 s (newN data owner when_)).length c7) ?_
                          rw [← hN, ← hX]
                          exact S8
                        exact HR.out (s, 0, insN M2 s (newN data owner when_)) HEF.out _ S9
                      · have hlt2 : ∀ q ∈ M2.take (k + 1), Op.bytesLess q.1 s = true := by
                          obtain ⟨hk', e⟩ := List.getElem?_eq_some_iff.1 HP.out
                          rw [List.take_succ_eq_append_getElem hk', e]
                          intro q hq
                          rcases List.mem_append.1 hq with hq | hq
                          · exact HLT.out q hq
                          · obtain rfl : q = p := by simpa using hq
                            exact hles
                        have HLT2 := hide hlt2
                        clear hlt2
                        go_wp2_with fail
                        go_roundw
                        case rel => exact ⟨k + 1, by omega, by go_num, HLT2.out, S3⟩
                        case measure => simp [RowKit.intOf]; omega
                    · have hke : k = M.length := by omega
                      subst hke
                      have HGE : Hid (∀ p, M2[M.length]? = some p → Op.bytesLess p.1 s = false) := hide fun q hq => by rw [List.getElem?_eq_none (by omega)] at hq; cases hq
                      by_cases hcc : c = M.length
                      · have hle0 : c ≤ M.length := by omega
                        subst hcc
                        have hins := insN_at s (newN data owner when_) HLT.out HGE.out
                        have HINS := hide hins
                        have hcl : (M.length : Int) ≤ (M.length : Int) := by omega
                        have hcl2 : (M.length : Int) ≤ (M.length : Int) := by omega
                        go_upto_region 27 with fail
                        have S4b := S3.box #[] 71 rfl
                        have SR := S4b.rowOf 8 0 rfl (Nat.zero_le _)
                        have hck : M.length - M.length = 0 := by omega
                        have c0 := S4b.p1.cell 0 _ rfl
                        clear hins
                        go_wp2_with (first
                          | (at_builtin; refine wpList_sapp slE rfl (.tmp 120) (.tmp 126) rfl (g := g) (S := SR) rfl (Src.zeroT (xs := (M2.drop M.length).flatMap entC) (by omega) (by rw [List.drop_eq_nil_of_le (by omega)]; rfl)) rfl (oneEn _) (by unfold maxLen; omega) (by omega) ?_; intro A5 c5 w5 S5; simp only [Nat.zero_add, List.nil_append] at S5; have c5' := S5.p1.cell 0 _ rfl; have hpre := (S5.box (entA (s, newN data owner when_)) 71 rfl).p3.srcT.pre M.length (by omega); rw [flatK_take (n := 8) (fun _ => rfl)] at hpre)
                          | (at_builtin; refine wpList_sfull slE rfl (.tmp 135) (.tmp 143) rfl (g := g) (S := S5.box (entA (s, newN data owner when_)) 71 rfl) hpre (by intro h; cases h) rfl (Src.block (heap_alloc_new _ _) 8 1 rfl) (by decide) rfl (by unfold maxLen; omega) (by omega) ?_; intro A6 c6 w6 S6)
                          | (at_builtin; refine wpList_sapp slE rfl (.tmp 144) (.tmp 145) rfl (g := g) (S := S6) rfl S6.p2.srcT rfl (oneEn _) (by unfold maxLen; omega) (by omega) ?_; intro A7 c7 w7 S7; have c7' := S7.p3.cell 0 _ rfl; have f7 := S7.p3.cells_fz 0))
                        go_ret2
                        have S8 := (S7.p3.setc 0 (.slice A7 (M.length + 1) c7)).p2.drop.p2.drop.p2.drop
                        have hN : M.length + 1 = (insN M2 s (newN data owner when_)).length := by rw [HINS.out]; simp; omega
                        have hX : (M2.take M.length).flatMap entC ++ (entA (s, newN data owner when_)).toList ++ (M2.drop M.length).flatMap entC = (insN M2 s (newN data owner when_)).flatMap entC := by rw [HINS.out]; simp [entC, List.flatMap_append]
                        have S9 : Sat g (w7.setCell ⟨b, 0, none⟩ (.slice A7 (M.length + 1) c7)) (modA b (insN M2 s (newN data owner when_)) :: L) := by
                          refine Sat.modShut (v := .slice A7 (insN M2 s (newN data owner when_)).length c7) ?_
                          rw [← hN, ← hX]
                          exact S8
                        exact HR.out (s, 0, insN M2 s (newN data owner when_)) HEF.out _ S9
                      · skip
                        have hins := insN_at s (newN data owner when_) HLT.out HGE.out
                        have HINS := hide hins
                        have hcl : (M.length : Int) ≤ (c : Int) := by omega
                        have hcl2 : (M.length : Int) ≤ (c : Int) := by omega
                        go_upto_region 27 with fail
                        have S4b := S3.box #[] 71 rfl
                        have SR := S4b.rowOf 8 0 rfl (Nat.zero_le _)
                        have hck : ¬ c = M.length := hcc
                        have c0 := S4b.p1.cell 0 _ rfl
                        clear hins
                        go_wp2_with (first
                          | (at_builtin; refine wpList_sapp slE rfl (.tmp 120) (.tmp 126) rfl (g := g) (S := SR) rfl (Src.zeroT (xs := (M2.drop M.length).flatMap entC) (by omega) (by rw [List.drop_eq_nil_of_le (by omega)]; rfl)) rfl (oneEn _) (by unfold maxLen; omega) (by omega) ?_; intro A5 c5 w5 S5; simp only [Nat.zero_add, List.nil_append] at S5; have c5' := S5.p1.cell 0 _ rfl; have hpre := (S5.box (entA (s, newN data owner when_)) 71 rfl).p3.srcT.pre M.length (by omega); rw [flatK_take (n := 8) (fun _ => rfl)] at hpre)
                          | (at_builtin; refine wpList_sfull slE rfl (.tmp 135) (.tmp 143) rfl (g := g) (S := S5.box (entA (s, newN data owner when_)) 71 rfl) hpre (by intro h; cases h) rfl (Src.block (heap_alloc_new _ _) 8 1 rfl) (by decide) rfl (by unfold maxLen; omega) (by omega) ?_; intro A6 c6 w6 S6)
                          | (at_builtin; refine wpList_sapp slE rfl (.tmp 144) (.tmp 145) rfl (g := g) (S := S6) rfl S6.p2.srcT rfl (oneEn _) (by unfold maxLen; omega) (by omega) ?_; intro A7 c7 w7 S7; have c7' := S7.p3.cell 0 _ rfl; have f7 := S7.p3.cells_fz 0))
                        go_ret2
                        have S8 := (S7.p3.setc 0 (.slice A7 (M.length + 1) c7)).p2.drop.p2.drop.p2.drop
                        have hN : M.length + 1 = (insN M2 s (newN data owner when_)).length := by rw [HINS.out]; simp; omega
                        have hX : (M2.take M.length).flatMap entC ++ (entA (s, newN data owner when_)).toList ++ (M2.drop M.length).flatMap entC = (insN M2 s (newN data owner when_)).flatMap entC := by rw [HINS.out]; simp [entC, List.flatMap_append]
                        have S9 : Sat g (w7.setCell ⟨b, 0, none⟩ (.slice A7 (M.length + 1) c7)) (modA b (insN M2 s (newN data owner when_)) :: L) := by
                          refine Sat.modShut (v := .slice A7 (insN M2 s (newN data owner when_)).length c7) ?_
                          rw [← hN, ← hX]
                          exact S8
                        exact HR.out (s, 0, insN M2 s (newN data owner when_)) HEF.out _ S9
            · have HF5 : Hid (F = if checkF (serialF s sr) ≠ 0 then ([], 10, M) else createG M (serialF s sr) up ⟨d, ve, bl, 0, md, st, sr⟩ data owner when_ true) := hide (by rw [HF4.out, if_neg (by simp), if_pos rfl])
              have hsl := serial_len s sr hb0 hb1
              have g7 := getE S2.p1 HAT.out 7 _ rfl (o := i * 8 + 1 + 6) (by omega)
              clear HF4
              go_wp2_with fail
              refine (serial_path w2 s sr hb0 hb1 (by omega)).mono ?_
              rintro e w3 ⟨rfl, hk3⟩
              generalize serialF s sr = s2 at *
              have S3 := S2.keep hk3
              clear S2 c0 g4 g7 hk3
              go_wp2_with fail
              refine (check_path w3 s2 (by omega) (HGL.out S3 (by simp [hm]))).mono ?_
              rintro e w2 ⟨rfl, hk4⟩
              have S2 := S3.keep hk4
              clear S3 hk4
              rcases check_cases s2 with hc2 | hc2
              · have HT : Hid (F = createG M s2 up ⟨d, ve, bl, 0, md, st, sr⟩ data owner when_ true) := hide (by rw [HF5.out, if_neg (by simp [hc2])])
                rw [hc2]
                clear HF5 hc2
                go_upto_region 17 with fail
                by_cases hin2 : s2 ∈ keys M
                · obtain ⟨n2, -, hg2, -⟩ := find_at hin2
                  have hff : findF M s2 = (findN M s2 : Int) := by unfold findF; rw [if_pos hin2]
                  have hfi := find_open S2 hl s2
                  rw [hff] at hfi
                  have hpos : (0 : Int) ≤ (findN M s2 : Int) := by omega
                  have e : F = ([], 12, M) := by rw [HT.out]; exact createG_old hg2
                  have HE := hide (HRF.out _ e (by simp))
                  clear e hin2 hg2 hff
                  generalize (findN M s2 : Int) = j at *
                  go_wp2_with fail
                  refine hfi.mono ?_
                  rintro e w3 ⟨rfl, S3⟩
                  clear hfi S2
                  go_wp2_with fail
                  go_ret2
                  exact HR.out ([], 12, M) HE.out _ S3.modShut
                · have hff : findF M s2 = -1 := by unfold findF; rw [if_neg hin2]
                  have hfi := find_open S2 hl s2
                  rw [hff] at hfi
                  have HT2 : Hid (F = if 60 ≤ M.length then ([], 16, M) else (s2, 0, mput (mput M up ⟨d, ve, bl + 1, 0, md, st, sr + 1⟩) s2 ⟨data, 0, 0, owner, when_, when_, 0⟩)) := hide (by rw [HT.out]; exact createG_new (mget_none.2 hin2))
                  clear HT hff hin2
                  go_wp2_with fail
                  refine hfi.mono ?_
                  rintro e w2 ⟨rfl, S2⟩
                  clear hfi
                  have c0 := S2.cell 0 _ rfl
                  by_cases h60 : 60 ≤ M.length
                  · have e : F = ([], 16, M) := by rw [HT2.out, if_pos h60]
                    have HE := hide (HRF.out _ e (by simp))
                    clear e HT2
                    go_wp2_with fail
                    go_ret2
                    exact HR.out ([], 16, M) HE.out _ S2.modShut
                  · have e : F = (s2, 0, mput (mput M up ⟨d, ve, bl + 1, 0, md, st, sr + 1⟩) s2 ⟨data, 0, 0, owner, when_, when_, 0⟩) := by rw [HT2.out, if_neg h60]
                    have HEF := hide (HRS.out _ _ e)
                    clear e HT2
                    have h60b : (M.length : Int) < 60 := by omega
                    go_upto_region 21 with fail
                    clear h60
                    have g7 := getE S2.p1 HAT.out 7 _ rfl (o := i * 8 + 1 + 6) (by omega)
                    have f7 := S2.p1.row_fz (i * 8 + 1 + 6)
                    go_upto_region 23 with fail
                    have S2 := (S2.p1.entSet 7 (up, ⟨d, ve, bl, 0, md, st, sr⟩) (up, ⟨d, ve, bl, 0, md, st, sr + 1⟩) (.int .i64 (sr + 1)) HAT.out (by decide) (entC_set7 up d ve bl 0 md st sr (sr + 1)) (o := i * 8 + 1 + 6) (by omega)).p1
                    generalize w2.setCell ⟨rb, i * 8 + 1 + 6, none⟩ (.int .i64 (sr + 1)) = w2 at *
                    have HAT := hide (show (M.set i (up, ⟨d, ve, bl, 0, md, st, sr + 1⟩))[i]? = some (up, ⟨d, ve, bl, 0, md, st, sr + 1⟩) by rw [List.getElem?_set_self h3])
                    clear g7 f7
                    have c0 := S2.cell 0 _ rfl
                    have g3 := getE S2.p1 HAT.out 3 _ rfl (o := i * 8 + 1 + 2) (by omega)
                    have f3 := S2.p1.row_fz (i * 8 + 1 + 2)
                    go_upto_region 24 with fail
                    have S3 := (S2.p1.entSet 3 (up, ⟨d, ve, bl, 0, md, st, sr + 1⟩) (up, ⟨d, ve, bl + 1, 0, md, st, sr + 1⟩) (.int .i64 (bl + 1)) HAT.out (by decide) (entC_set3 up d ve bl (bl + 1) 0 md st (sr + 1)) (o := i * 8 + 1 + 2) (by omega)).p1
                    generalize w2.setCell ⟨rb, i * 8 + 1 + 2, none⟩ (.int .i64 (bl + 1)) = w4 at *
                    rw [List.set_set] at S3
                    have hl2 : (M.set i (up, ⟨d, ve, bl + 1, 0, md, st, sr + 1⟩)).length = M.length := by simp
                    have HEF2 : Hid (R = (s2, 0, insN (M.set i (up, ⟨d, ve, bl + 1, 0, md, st, sr + 1⟩)) s2 (newN data owner when_))) := hide (by rw [HEF.out, HSP.out]; rfl)
                    clear S2 g3 f3 c0 HEF
                    have HEF := HEF2
                    clear HEF2
                    generalize M.set i (up, ⟨d, ve, bl + 1, 0, md, st, sr + 1⟩) = M2 at *
                    go_wp2_with fail
                    go_loopw [17] (fun at_ wr => ∃ k : Nat, k ≤ M.length ∧ at_ = .int .i64 k ∧ (∀ q ∈ M2.take k, Op.bytesLess q.1 s2 = true) ∧ Sat g wr (cellsA b 69 #[.slice (some ⟨rb, 0, none⟩) M.length c] :: rowA 71 8 (.slice (some ⟨rb, 0, none⟩) M.length c) M.length (M2.flatMap entC) :: L)) (fun at_ _ => M.length + 1 - (RowKit.intOf at_).toNat)
                    case atStart => exact ⟨0, by omega, rfl, by simp, S3⟩
                    case round =>
                      clear S3
                      obtain ⟨k, hk, rfl, hlt, S3⟩ := hrel
                      have HLT := hide hlt
                      clear hlt
                      have c0 := S3.cell 0 _ rfl
                      by_cases hkn : k < M.length
                      · have hk0 : (0 : Int) ≤ (k : Int) := by omega
                        have hk1 : (k : Int) < (M.length : Int) := by omega
                        obtain ⟨ad', p, hA', hp, d0, -⟩ := ent_at S3.p1.srcT hl2 hkn
                        obtain rfl := Option.some.inj hA'
                        rw [addr_blk] at d0
                        have HP := hide hp
                        clear hp hA'
                        cases hles : Op.bytesLess p.1 s2
                        · have HGE : Hid (∀ p, M2[k]? = some p → Op.bytesLess p.1 s2 = false) := hide fun q hq => by rw [HP.out] at hq; cases hq; exact hles
                          have hcc : ¬ c = k := by omega
                          have hins := insN_at s2 (newN data owner when_) HLT.out HGE.out
                          have HINS := hide hins
                          have hcl : (k : Int) ≤ (c : Int) := by omega
                          have hcl2 : (M.length : Int) ≤ (c : Int) := by omega
                          go_upto_region 27 with fail
                          have S4b := S3.box #[] 71 rfl
                          have SR := S4b.rowOf 8 0 rfl (Nat.zero_le _)
                          have hck : ¬ c = k := hcc
                          have hsrc := S4b.p2.srcT.suf k (by omega)
                          rw [flatK_drop (n := 8) (fun _ => rfl), addr_blk] at hsrc
                          have c0 := S4b.p1.cell 0 _ rfl
                          clear hins
                          go_wp2_with (first
                            | (at_builtin; refine wpList_sapp slE rfl (.tmp 120) (.tmp 126) rfl (g := g) (S := SR) rfl (hsrc) rfl (oneEn _) (by unfold maxLen; omega) (by omega) ?_; intro A5 c5 w5 S5; simp only [Nat.zero_add, List.nil_append] at S5; have c5' := S5.p1.cell 0 _ rfl; have hpre := (S5.box (entA (s2, newN data owner when_)) 71 rfl).p3.srcT.pre k (by omega); rw [flatK_take (n := 8) (fun _ => rfl)] at hpre)
                            | (at_builtin; refine wpList_sfull slE rfl (.tmp 135) (.tmp 143) rfl (g := g) (S := S5.box (entA (s2, newN data owner when_)) 71 rfl) hpre (by intro h; cases h) rfl (Src.block (heap_alloc_new _ _) 8 1 rfl) (by decide) rfl (by unfold maxLen; omega) (by omega) ?_; intro A6 c6 w6 S6)
                            | (at_builtin; refine wpList_sapp slE rfl (.tmp 144) (.tmp 145) rfl (g := g) (S := S6) rfl S6.p2.srcT rfl (oneEn _) (by unfold maxLen; omega) (by omega) ?_; intro A7 c7 w7 S7; have c7' := S7.p3.cell 0 _ rfl; have f7 := S7.p3.cells_fz 0))
                          go_ret2
                          have S8 := (S7.p3.setc 0 (.slice A7 (k + 1 + (M.length - k)) c7)).p2.drop.p2.drop.p2.drop
                          have hN : k + 1 + (M.length - k) = (insN M2 s2 (newN data owner when_)).length := by rw [HINS.out]; simp; omega
                          have hX : (M2.take k).flatMap entC ++ (entA (s2, newN data owner when_)).toList ++ (M2.drop k).flatMap entC = (insN M2 s2 (newN data owner when_)).flatMap entC := by rw [HINS.out]; simp [entC, List.flatMap_append]
                          have S9 : Sat g (w7.setCell ⟨b, 0, none⟩ (.slice A7 (k + 1 + (M.length - k)) c7)) (modA b (insN M2 s2 (newN data owner when_)) :: L) := by
                            refine Sat.modShut (v := .slice A7 (insN M2 s2 (newN data owner when_)).length c7) ?_
                            rw [← hN, ← hX]
                            exact S8
                          exact HR.out (s2, 0, insN M2 s2 (newN data owner when_)) HEF.out _ S9
                        · have hlt2 : ∀ q ∈ M2.take (k + 1), Op.bytesLess q.1 s2 = true := by
                            obtain ⟨hk', e⟩ := List.getElem?_eq_some_iff.1 HP.out
                            rw [List.take_succ_eq_append_getElem hk', e]
                            intro q hq
                            rcases List.mem_append.1 hq with hq | hq
                            · exact HLT.out q hq
                            · obtain rfl : q = p := by simpa using hq
                              exact hles
                          have HLT2 := hide hlt2
                          clear hlt2
                          go_wp2_with fail
                          go_roundw
                          case rel => exact ⟨k + 1, by omega, by go_num, HLT2.out, S3⟩
                          case measure => simp [RowKit.intOf]; omega
                      · have hke : k = M.length := by omega
                        subst hke
                        have HGE : Hid (∀ p, M2[M.length]? = some p → Op.bytesLess p.1 s2 = false) := hide fun q hq => by rw [List.getElem?_eq_none (by omega)] at hq; cases hq
                        by_cases hcc : c = M.length
                        · have hle0 : c ≤ M.length := by omega
                          subst hcc
                          have hins := insN_at s2 (newN data owner when_) HLT.out HGE.out
                          have HINS := hide hins
                          have hcl : (M.length : Int) ≤ (M.length : Int) := by omega
                          have hcl2 : (M.length : Int) ≤ (M.length : Int) := by omega
                          go_upto_region 27 with fail
                          have S4b := S3.box #[] 71 rfl
                          have SR := S4b.rowOf 8 0 rfl (Nat.zero_le _)
                          have hck : M.length - M.length = 0 := by omega
                          have c0 := S4b.p1.cell 0 _ rfl
                          clear hins
                          go_wp2_with (first
                            | (at_builtin; refine wpList_sapp slE rfl (.tmp 120) (.tmp 126) rfl (g := g) (S := SR) rfl (Src.zeroT (xs := (M2.drop M.length).flatMap entC) (by omega) (by rw [List.drop_eq_nil_of_le (by omega)]; rfl)) rfl (oneEn _) (by unfold maxLen; omega) (by omega) ?_; intro A5 c5 w5 S5; simp only [Nat.zero_add, List.nil_append] at S5; have c5' := S5.p1.cell 0 _ rfl; have hpre := (S5.box (entA (s2, newN data owner when_)) 71 rfl).p3.srcT.pre M.length (by omega); rw [flatK_take (n := 8) (fun _ => rfl)] at hpre)
                            | (at_builtin; refine wpList_sfull slE rfl (.tmp 135) (.tmp 143) rfl (g := g) (S := S5.box (entA (s2, newN data owner when_)) 71 rfl) hpre (by intro h; cases h) rfl (Src.block (heap_alloc_new _ _) 8 1 rfl) (by decide) rfl (by unfold maxLen; omega) (by omega) ?_; intro A6 c6 w6 S6)
                            | (at_builtin; refine wpList_sapp slE rfl (.tmp 144) (.tmp 145) rfl (g := g) (S := S6) rfl S6.p2.srcT rfl (oneEn _) (by unfold maxLen; omega) (by omega) ?_; intro A7 c7 w7 S7; have c7' := S7.p3.cell 0 _ rfl; have f7 := S7.p3.cells_fz 0))
                          go_ret2
                          have S8 := (S7.p3.setc 0 (.slice A7 (M.length + 1) c7)).p2.drop.p2.drop.p2.drop
                          have hN : M.length + 1 = (insN M2 s2 (newN data owner when_)).length := by rw [HINS.out]; simp; omega
                          have hX : (M2.take M.length).flatMap entC ++ (entA (s2, newN data owner when_)).toList ++ (M2.drop M.length).flatMap entC = (insN M2 s2 (newN data owner when_)).flatMap entC := by rw [HINS.out]; simp [entC, List.flatMap_append]
                          have S9 : Sat g (w7.setCell ⟨b, 0, none⟩ (.slice A7 (M.length + 1) c7)) (modA b (insN M2 s2 (newN data owner when_)) :: L) := by
                            refine Sat.modShut (v := .slice A7 (insN M2 s2 (newN data owner when_)).length c7) ?_
                            rw [← hN, ← hX]
                            exact S8
                          exact HR.out (s2, 0, insN M2 s2 (newN data owner when_)) HEF.out _ S9
                        · skip
                          have hins := insN_at s2 (newN data owner when_) HLT.out HGE.out
                          have HINS := hide hins
                          have hcl : (M.length : Int) ≤ (c : Int) := by omega
                          have hcl2 : (M.length : Int) ≤ (c : Int) := by omega
                          go_upto_region 27 with fail
                          have S4b := S3.box #[] 71 rfl
                          have SR := S4b.rowOf 8 0 rfl (Nat.zero_le _)
                          have hck : ¬ c = M.length := hcc
                          have c0 := S4b.p1.cell 0 _ rfl
                          clear hins
                          go_wp2_with (first
                            | (at_builtin; refine wpList_sapp slE rfl (.tmp 120) (.tmp 126) rfl (g := g) (S := SR) rfl (Src.zeroT (xs := (M2.drop M.length).flatMap entC) (by omega) (by rw [List.drop_eq_nil_of_le (by omega)]; rfl)) rfl (oneEn _) (by unfold maxLen; omega) (by omega) ?_; intro A5 c5 w5 S5; simp only [Nat.zero_add, List.nil_append] at S5; have c5' := S5.p1.cell 0 _ rfl; have hpre := (S5.box (entA (s2, newN data owner when_)) 71 rfl).p3.srcT.pre M.length (by omega); rw [flatK_take (n := 8) (fun _ => rfl)] at hpre)
                            | (at_builtin; refine wpList_sfull slE rfl (.tmp 135) (.tmp 143) rfl (g := g) (S := S5.box (entA (s2, newN data owner when_)) 71 rfl) hpre (by intro h; cases h) rfl (Src.block (heap_alloc_new _ _) 8 1 rfl) (by decide) rfl (by unfold maxLen; omega) (by omega) ?_; intro A6 c6 w6 S6)
                            | (at_builtin; refine wpList_sapp slE rfl (.tmp 144) (.tmp 145) rfl (g := g) (S := S6) rfl S6.p2.srcT rfl (oneEn _) (by unfold maxLen; omega) (by omega) ?_; intro A7 c7 w7 S7; have c7' := S7.p3.cell 0 _ rfl; have f7 := S7.p3.cells_fz 0))
                          go_ret2
                          have S8 := (S7.p3.setc 0 (.slice A7 (M.length + 1) c7)).p2.drop.p2.drop.p2.drop
                          have hN : M.length + 1 = (insN M2 s2 (newN data owner when_)).length := by rw [HINS.out]; simp; omega
                          have hX : (M2.take M.length).flatMap entC ++ (entA (s2, newN data owner when_)).toList ++ (M2.drop M.length).flatMap entC = (insN M2 s2 (newN data owner when_)).flatMap entC := by rw [HINS.out]; simp [entC, List.flatMap_append]
                          have S9 : Sat g (w7.setCell ⟨b, 0, none⟩ (.slice A7 (M.length + 1) c7)) (modA b (insN M2 s2 (newN data owner when_)) :: L) := by
                            refine Sat.modShut (v := .slice A7 (insN M2 s2 (newN data owner when_)).length c7) ?_
                            rw [← hN, ← hX]
                            exact S8
                          exact HR.out (s2, 0, insN M2 s2 (newN data owner when_)) HEF.out _ S9
              · have e : F = ([], 10, M) := by rw [HF5.out, if_pos (by simp [hc2])]
                have HE := hide (HRF.out _ e (by simp))
                rw [hc2]
                clear e HF5 hc2
                go_wp2_with fail
                go_ret2
                exact HR.out ([], 10, M) HE.out _ S2.modShut
          · have hob : (ow != 0) = true := by simpa using how
            have e : F = ([], 15, M) := by rw [HF4.out, if_pos how]
            have HE := hide (HRF.out _ e (by simp))
            clear e HF4 how
            go_wp2_with fail
            go_ret2
            exact HR.out ([], 15, M) HE.out _ S2.modShut
        · have hff : findF M up = -1 := by unfold findF; rw [if_neg hin]
          have hfi := find_mod S2 hl up
          rw [hff] at hfi
          have e : F = ([], 11, M) := by rw [HF3.out, mget_none.2 hin]
          have HE := hide (HRF.out _ e (by simp))
          clear e HF3 hin hff
          go_wp2_with fail
          refine hfi.mono ?_
          rintro e w3 ⟨rfl, S3⟩
          clear hfi S2
          go_wp2_with fail
          go_ret2
          exact HR.out ([], 11, M) HE.out _ S3
  · have e : F = ([], 10, M) := by rw [HF.out, if_pos (by simp [hc]), hc]
    rw [hc] at hch
    have HE := hide (HRF.out _ e (by simp))
    clear e HF hc
    go_enter Tryz.func59, Tryz.ntmps59
    go_wp2_with fail
    refine hch.mono ?_
    rintro e w1 ⟨rfl, hk1⟩
    have S1 := S0.keep hk1
    clear hch S0 hk1
    go_wp2_with fail
    go_ret2
    exact HR.out ([], 10, M) HE.out _ S1
end
end Go.Proofs.YtecpfnobnpddaaaGreatDoor
