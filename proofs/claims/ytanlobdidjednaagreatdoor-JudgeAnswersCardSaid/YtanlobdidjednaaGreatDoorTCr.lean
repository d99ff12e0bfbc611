/- A node made below another, whatever number it bears: walked. No condition. -/
import Derived.Test.YtanlobdidjednaaGreatDoorTreeM
import Derived.Shelf.Strconv.Itoa3
set_option linter.unusedVariables false
set_option linter.unusedSimpArgs false
namespace Go.Proofs.YtanlobdidjednaaGreatDoor
open Go.RowKit

theorem keeps_growT (w : World) (k : Nat) (os : Array Obj) : Keeps (fun _ => False) w (Sort.grow (w.drewN k) os) :=
  ⟨rfl, rfl, rfl, by simp [Sort.grow], fun i hi _ => by
    have h1 : i < (w.drewN k).heap.size := by simpa using hi
    simp only [Sort.grow, Array.getElem?_append, if_pos h1]
    simp⟩
/-- the name of the library's table of the powers of ten, and what it serves for -/
def itoaT : { nm : String // ∀ (n : Nat) (w : World), n < 1073741824 → Lib.TabIs Tryz.prog w nm .u64 Lib.pow10Tab → Calls Tryz.prog 154 #[.int .i64 n] w fun e w' => e = .returned (.string (S (Lib.decDigits n))) ∧ Keeps (fun _ => False) w w' } :=
  ⟨_, fun n w hn htab => (Any.strconv_Itoa Tryz.laysM171 n (by omega) (by omega) w htab).mono (by
    rintro e w' ⟨rfl, k, os, rfl⟩
    rw [Lib.itoa_nonneg]
    exact ⟨rfl, keeps_growT _ _ _⟩)⟩
/-- the table lies in this world -/
def TabE (w : World) : Prop := Lib.TabIs Tryz.prog w itoaT.val .u64 Lib.pow10Tab
theorem TabE.block {w : World} (h : TabE w) : ∃ g, Tryz.prog.globalNamed itoaT.val = some g ∧ g < w.heap.size := by
  have h1 : w.var? Tryz.prog itoaT.val = some _ := h
  unfold World.var? at h1
  cases hg : Tryz.prog.globalNamed itoaT.val with
  | none => rw [hg] at h1; cases h1
  | some g =>
    rw [hg] at h1
    simp only [Option.bind_some] at h1
    cases hb : w.heap[g]? with
    | none => rw [hb] at h1; cases h1
    | some o => exact ⟨g, rfl, (Array.getElem?_eq_some_iff.1 hb).1⟩
theorem TabE.keepF {w w' : World} {F : Nat → Prop} (h : TabE w) (hk : Keeps F w w') (hF : ∀ g, g < w.heap.size → ¬ F g) : TabE w' := by
  obtain ⟨g, hg, hlt⟩ := h.block
  have h1 : w.var? Tryz.prog itoaT.val = some _ := h
  show w'.var? Tryz.prog itoaT.val = some _
  rw [← h1]
  unfold World.var? at h1 ⊢
  rw [hg] at h1 ⊢
  simp only [Option.bind_some] at h1 ⊢
  have hb : w.heap[g]? = some w.heap[g] := by simp [hlt]
  rw [hb, hk.heap hb (hF g hlt)]
theorem TabE.keep {w w' : World} (h : TabE w) (hk : Keeps (fun _ => False) w w') : TabE w' := h.keepF hk fun _ _ h => h
theorem TabE.at {g w : World} {L : List Asn} (h : TabE g) (S0 : Sat g w L) (hm : oldA g ∈ L) : TabE w := h.keepF (S0.keepsOf hm) fun k hk h => by omega
theorem serial_len2 (s : List UInt8) (n : Int) (h0 : 0 ≤ n) (hn : n < 1000000) : (serialF s n).length = s.length + 10 := by
  have := pad_fix 10 n.toNat (by decide) (by omega)
  show (s ++ Lib.repeatL [48] (10 - (Lib.decDigits n.toNat).length) ++ Lib.decDigits n.toNat).length = _
  rw [List.append_assoc, this.2, List.length_append, fixD_length]
set_option maxRecDepth 100000 in
theorem serial_path2 (w : World) (s : List UInt8) (n : Int) (h0 : 0 ≤ n) (hn : n < 100 ∨ (n < 1000000 ∧ TabE w)) (hs : s.length ≤ 140737488355000) :
    Calls Tryz.prog 127 #[.string (S s), .int .i64 n] w fun e w' => e = .returned (.string (S (serialF s n))) ∧ Keeps (fun _ => False) w w' := by
  rcases hn with hn | ⟨hn, htab⟩
  · exact serial_path w s n h0 hn hs
  obtain ⟨n, rfl⟩ := Int.eq_ofNat_of_zero_le h0
  have hi := itoaT.property n w (by omega) htab
  have HF : Hid (serialF s n = s ++ Lib.repeatL [48] (10 - (Lib.decDigits n).length) ++ Lib.decDigits n) := by
    show serialF s n = _
    unfold serialF serialN
    rw [Int.toNat_natCast]
  obtain ⟨d2, -⟩ := pad_fix 10 n (by decide) (by omega)
  generalize Lib.decDigits n = d at *
  have hr := fun w => repeat_lib w [48] (10 - d.length) (by omega) (by simp)
  have hlen := Lib.repeatL_length [48] (10 - d.length)
  have hlen2 : (Lib.repeatL [48] (10 - d.length)).length ≤ 10 := by rw [hlen]; simp
  generalize Lib.repeatL [48] (10 - d.length) = z at *
  have hc : (((10 - d.length : Nat)) : Int) = max 0 (10 - (d.length : Int)) := by omega
  rw [hc] at hr
  have HR := hide hr
  have HI := hide hi
  have hmx : max (n : Int) 0 = n := by omega
  have hmx2 : max 0 (n : Int) = n := by omega
  clear hc hr hlen htab hi
  go_enter Tryz.func127, Tryz.ntmps127
  go_wp2_with fail
  refine HI.out.mono ?_
  rintro e w1 ⟨rfl, hk1⟩
  have HK1 := hide hk1
  clear hk1
  go_wp2_with fail
  refine (HR.out _).mono ?_
  rintro e w2 ⟨rfl, hk⟩
  have HK := hide (HK1.out.trans' hk)
  clear hk
  have e2 : S s ++ S z ++ S d = S (s ++ z ++ d) := by rw [← S_append, ← S_append]
  have E2 := hide e2
  clear e2
  go_wp2_with fail
  go_ret
  exact ⟨by rw [HF.out, ← E2.out]; rfl, HK.out⟩
section
variable {g w : World} {L : List Asn} {b mb x : Nat} {T : TreeT}
set_option maxRecDepth 100000 in
set_option maxHeartbeats 8000000 in
theorem create_tree2 (S0 : Sat g w (treeA b T :: L)) (hG : GL w) (s data : List UInt8) (owner when_ : Int) (serial : Bool) (hs : s.length ≤ 140737488350000) (hd : data.length ≤ 140737488350000) (hT : T.length ≤ 1000000)
    (hb : ∀ a, mget T (upF s).1 = some a → 0 ≤ a.serial ∧ (a.serial < 100 ∨ (a.serial < 1000000 ∧ TabE w)) ∧ 0 ≤ a.below ∧ a.below ≤ 1000000) :
    Calls Tryz.prog 108 #[ptr b, .string (S s), .string (S data), .int .i64 owner, .int .i64 when_, .bool serial] w fun e w' =>
      e = .returned (.tuple #[.string (S (createF T s data owner when_ serial).1), .int .i64 (createF T s data owner when_ serial).2.1]) ∧ Sat g w' (treeA b (createF T s data owner when_ serial).2.2 :: L) := by
  have HR : Hid (∀ r, createF T s data owner when_ serial = r → ∀ w', Sat g w' (treeA b r.2.2 :: L) → Ending.returned (.tuple #[.string (S r.1), .int .i64 r.2.1]) = Ending.returned (.tuple #[.string (S (createF T s data owner when_ serial).1), .int .i64 (createF T s data owner when_ serial).2.1]) ∧ Sat g w' (treeA b (createF T s data owner when_ serial).2.2 :: L)) :=
    hide fun r h w' S' => by subst h; exact ⟨rfl, S'⟩
  have HF : Hid (createF T s data owner when_ serial = if checkF s ≠ 0 then ([], checkF s, T) else if s = [47] then ([], 12, T) else if 60 < data.length then ([], 3, T) else
    match mget T (upF s).1 with
    | none => ([], 11, T)
    | some a => if a.owner ≠ 0 then ([], 15, T) else
      if serial = true then (if checkF (serialF s a.serial) ≠ 0 then ([], 10, T) else createG T (serialF s a.serial) (upF s).1 a data owner when_ true)
      else createG T s (upF s).1 a data owner when_ false) := rfl
  generalize createF T s data owner when_ serial = R at *
  have hch := check_path w s (by omega) hG
  rcases check_cases s with hc | hc
  · rw [hc] at hch
    have HF2 : Hid (R = if s = [47] then ([], 12, T) else if 60 < data.length then ([], 3, T) else
      match mget T (upF s).1 with
      | none => ([], 11, T)
      | some a => if a.owner ≠ 0 then ([], 15, T) else
        if serial = true then (if checkF (serialF s a.serial) ≠ 0 then ([], 10, T) else createG T (serialF s a.serial) (upF s).1 a data owner when_ true)
        else createG T s (upF s).1 a data owner when_ false) := hide (by rw [HF.out, if_neg (by simp [hc])])
    clear HF hc
    have hup := fun w => up_path w s (by omega)
    generalize (upF s).1 = up at *
    generalize (upF s).2 = last at *
    have HGL : Hid (∀ w1, Keeps (fun _ => False) w w1 → GL w1) := hide fun w1 hk => hG.keep hk fun h => h
    have HS0 := hide S0
    clear S0 hG
    go_enter Tryz.func108, Tryz.ntmps108
    go_wp2_with fail
    refine hch.mono ?_
    rintro e w1 ⟨rfl, hk1⟩
    clear hch
    go_wp2_with fail
    refine (hup w1).mono ?_
    rintro e w2 ⟨rfl, hk2⟩
    have S2 := HS0.out.keep (hk1.trans' hk2)
    have HK2 := hide (hk1.trans' hk2)
    have HK3 : Hid (∀ o, Keeps (fun _ => False) w (w2.alloc o)) := hide fun o => (hk1.trans' hk2).alloc o
    clear hk1 hk2 hup HS0
    obtain ⟨mb, S3⟩ := S2.treeOpen
    clear S2
    have c0 := S3.cell 0 _ rfl
    cases hg : mget T up with
    | none =>
      have hl := look_non S3.p1 hg true
      have e3 : R = if s = [47] then ([], 12, T) else if 60 < data.length then ([], 3, T) else ([], 11, T) := by rw [HF2.out, hg]
      have HF3 := hide e3
      clear hg e3 HF2
      go_upto_region 6 with fail
      have S4 := S3.box (nodC zN) 46 rfl
      generalize w2.alloc (.cells (nodC zN) 46) = wC at *
      generalize w2.heap.size = xb at *
      have S5 := S4.drop.treeShut
      clear S3 S4 c0 hl hb HGL HK2 HK3
      by_cases h47 : s = [47]
      · have h47b : (s == [47]) = true := by simpa using h47
        have e : R = ([], 12, T) := by rw [HF3.out, if_pos h47]
        have HE := hide e
        clear e HF3 h47
        go_wp2_with fail
        go_ret2
        exact HR.out ([], 12, T) HE.out _ S5
      · have h47b : (s == [47]) = false := by simpa using h47
        by_cases h60 : 60 < data.length
        · have e : R = ([], 3, T) := by rw [HF3.out, if_neg h47, if_pos h60]
          have HE := hide e
          clear e HF3 h47
          go_wp2_with fail
          go_ret2
          exact HR.out ([], 3, T) HE.out _ S5
        · have e : R = ([], 11, T) := by rw [HF3.out, if_neg h47, if_neg h60]
          have HE := hide e
          clear e HF3 h47
          go_wp2_with fail
          go_ret2
          exact HR.out ([], 11, T) HE.out _ S5
    | some a =>
      obtain ⟨hb0, hb1, hb2, hb3⟩ := hb a hg
      have hb6 : a.serial < 1000000 := by rcases hb1 with h | h <;> omega
      have HTB : Hid (∀ w1, Keeps (fun _ => False) w w1 → a.serial < 100 ∨ (a.serial < 1000000 ∧ TabE w1)) := hide fun w1 hk => hb1.imp id fun h => ⟨h.1, h.2.keep hk⟩
      clear hb1
      have hl := look_node S3.p1 hg true
      have e3 : R = if s = [47] then ([], 12, T) else if 60 < data.length then ([], 3, T) else
        if a.owner ≠ 0 then ([], 15, T) else
          if serial = true then (if checkF (serialF s a.serial) ≠ 0 then ([], 10, T) else createG T (serialF s a.serial) up a data owner when_ true)
          else createG T s up a data owner when_ false := by rw [HF2.out, hg]
      have HF3 := hide e3
      clear hg e3 HF2 hb
      go_upto_region 6 with fail
      have S4 := S3.box (nodC a) 46 rfl
      have HKC : Keeps (fun _ => False) w (w2.alloc (.cells (nodC a) 46)) := HK3.out _
      generalize w2.alloc (.cells (nodC a) 46) = wC at *
      generalize w2.heap.size = xb at *
      have HK4 := hide HKC
      clear S3 c0 hl HKC HK3 HK2
      obtain ⟨a0, a1, a2, a3, a4, a5, a6⟩ := S4.nod
      by_cases h47 : s = [47]
      · have h47b : (s == [47]) = true := by simpa using h47
        have e : R = ([], 12, T) := by rw [HF3.out, if_pos h47]
        have HE := hide e
        clear e HF3 h47
        go_wp2_with fail
        go_ret2
        exact HR.out ([], 12, T) HE.out _ S4.drop.treeShut
      · have h47b : (s == [47]) = false := by simpa using h47
        by_cases h60 : 60 < data.length
        · have e : R = ([], 3, T) := by rw [HF3.out, if_neg h47, if_pos h60]
          have HE := hide e
          clear e HF3 h47
          go_wp2_with fail
          go_ret2
          exact HR.out ([], 3, T) HE.out _ S4.drop.treeShut
        · by_cases how : a.owner = 0
          · have e4 : R = if serial = true then (if checkF (serialF s a.serial) ≠ 0 then ([], 10, T) else createG T (serialF s a.serial) up a data owner when_ true)
                else createG T s up a data owner when_ false := by rw [HF3.out, if_neg h47, if_neg h60, if_neg (by simp [how])]
            have HF4 := hide e4
            clear e4 HF3 h47
            obtain ⟨d, v, bl, ow, md, st, sr⟩ := a
            simp only at how hb0 hb6 hb2 hb3 HTB a0 a1 a2 a3 a4 a5 a6 HF4
            subst how
            cases serial
            · have HT : Hid (R = createG T s up ⟨d, v, bl, 0, md, st, sr⟩ data owner when_ false) := hide (by rw [HF4.out, if_neg (by simp)])
              clear HF4
              go_upto_region 18 with fail
              have c0 := S4.p1.cell 0 _ rfl
              cases hg2 : mget T s with
              | some n2 =>
                have hl := look_node S4.p2 hg2 true
                have e : R = ([], 12, T) := by rw [HT.out]; exact createG_old hg2
                have HE := hide e
                clear e HT hg2
                go_upto_region 19 with fail
                have S5 := (S4.box (nodC n2) 46 rfl).drop
                generalize wC.alloc (.cells (nodC n2) 46) = w5 at *
                generalize wC.heap.size = yb at *
                clear S4 hl c0
                go_wp2_with fail
                go_ret2
                exact HR.out ([], 12, T) HE.out _ (S5.drop.treeShut)
              | none =>
                have hl := look_non S4.p2 hg2 true
                have HT2 : Hid (R = if 60 ≤ T.length then ([], 16, T) else (s, 0, mput (mput T up ⟨d, v, bl + 1, 0, md, st, sr⟩) s ⟨data, 0, 0, owner, when_, when_, 0⟩)) := hide (by rw [HT.out]; exact createG_new hg2)
                clear HT hg2
                go_upto_region 19 with fail
                have S6 := (S4.box (nodC zN) 46 rfl).drop
                generalize wC.alloc (.cells (nodC zN) 46) = w5 at *
                generalize wC.heap.size = yb at *
                clear S4 hl c0 a0 a1 a2 a3 a4 a5 a6
                obtain ⟨a0, a1, a2, a3, a4, a5, a6⟩ := S6.nod
                have c0 := S6.p1.cell 0 _ rfl
                have hlen := len_node S6.p2
                by_cases h60 : 60 ≤ T.length
                · have e : R = ([], 16, T) := by rw [HT2.out, if_pos h60]
                  have HE := hide e
                  clear e HT2
                  go_wp2_with fail
                  go_ret2
                  exact HR.out ([], 16, T) HE.out _ (S6.drop.treeShut)
                · have e : R = (s, 0, mput (mput T up ⟨d, v, bl + 1, 0, md, st, sr⟩) s ⟨data, 0, 0, owner, when_, when_, 0⟩) := by rw [HT2.out, if_neg h60]
                  have HE := hide e
                  clear e HT2
                  have h60b : (T.length : Int) < 60 := by omega
                  go_upto_region 23 with fail
                  clear hlen h60b h60
                  have S7 : Sat g w5 (cellsA xb 46 (nodC ⟨d, v, bl, 0, md, st, sr⟩) :: cellsA b 114 #[.map (some mb)] :: mapA kS nodV mb T :: L) := S6
                  go_upto_region 25 with fail
                  generalize w5 = w6 at *
                  clear S6 a0 a1 a2 a3 a4 a5 a6 c0

                  obtain ⟨a0, a1, a2, a3, a4, a5, a6⟩ := S7.nod
                  have f2 := S7.cells_fz 2
                  go_upto_region 26 with fail
                  have S8 : Sat g (w6.setCell ⟨xb, 2, none⟩ (.int .i64 (bl + 1))) (cellsA xb 46 (nodC ⟨d, v, bl + 1, 0, md, st, sr⟩) :: cellsA b 114 #[.map (some mb)] :: mapA kS nodV mb T :: L) := S7.setc 2 (.int .i64 (bl + 1))
                  generalize w6.setCell ⟨xb, 2, none⟩ (.int .i64 (bl + 1)) = w7 at *
                  clear S7 f2 a0 a1 a2 a3 a4 a5 a6
                  have S9 := S8.drew
                  obtain ⟨a0, a1, a2, a3, a4, a5, a6⟩ := S8.nod
                  obtain ⟨b0, b1, b2, b3, b4, b5, b6⟩ := S9.nod
                  have c0 := S8.p1.cell 0 _ rfl
                  have c0' := S9.p1.cell 0 _ rfl
                  obtain ⟨w10, hup, S10⟩ := put_node S9.p2 up ⟨d, v, bl + 1, 0, md, st, sr⟩
                  simp only at a0 a1 a2 a3 a4 a5 a6 b0 b1 b2 b3 b4 b5 b6
                  clear S8 S9
                  go_still_tail 6, (by kernel_rfl)
                  change wpList _ _ _ _ _ w7.drew
                  go_upto_region 27 with fail
                  clear hup c0 c0' a0 a1 a2 a3 a4 a5 a6 b0 b1 b2 b3 b4 b5 b6
                  have c0 := S10.p2.cell 0 _ rfl
                  obtain ⟨w11, hup, S11⟩ := put_node S10 s ⟨data, 0, 0, owner, when_, when_, 0⟩
                  clear S10
                  go_wp2_with fail
                  go_ret2
                  exact HR.out (s, 0, mput (mput T up ⟨d, v, bl + 1, 0, md, st, sr⟩) s ⟨data, 0, 0, owner, when_, when_, 0⟩) HE.out _ (Sat.treeShut (S11.p1.drop.p1))
            · have HF5 : Hid (R = if checkF (serialF s sr) ≠ 0 then ([], 10, T) else createG T (serialF s sr) up ⟨d, v, bl, 0, md, st, sr⟩ data owner when_ true) := hide (by rw [HF4.out, if_pos rfl])
              clear HF4
              have hsl := serial_len2 s sr hb0 hb6
              go_upto_region 15 with fail
              go_wp2_with fail
              refine (serial_path2 wC s sr hb0 (HTB.out _ HK4.out) (by omega)).mono ?_
              rintro e w3 ⟨rfl, hk3⟩
              generalize serialF s sr = s2 at *
              have S5 := S4.keep hk3
              obtain ⟨m0, m1, m2, m3, m4, m5, m6⟩ := S5.nod
              clear S4 a0 a1 a2 a3 a4 a5 a6
              go_wp2_with fail
              refine (check_path w3 s2 (by omega) (HGL.out _ (HK4.out.trans' hk3))).mono ?_
              rintro e wC ⟨rfl, hk4⟩
              have S4 := S5.keep hk4
              clear S5 m0 m1 m2 m3 m4 m5 m6 hk3 hk4 HGL HK4
              obtain ⟨a0, a1, a2, a3, a4, a5, a6⟩ := S4.nod
              rcases check_cases s2 with hc2 | hc2
              · have HT : Hid (R = createG T s2 up ⟨d, v, bl, 0, md, st, sr⟩ data owner when_ true) := hide (by rw [HF5.out, if_neg (by simp [hc2])])
                rw [hc2]
                clear HF5 hc2
                go_upto_region 18 with fail
                have c0 := S4.p1.cell 0 _ rfl
                cases hg2 : mget T s2 with
                | some n2 =>
                  have hl := look_node S4.p2 hg2 true
                  have e : R = ([], 12, T) := by rw [HT.out]; exact createG_old hg2
                  have HE := hide e
                  clear e HT hg2
                  go_upto_region 19 with fail
                  have S5 := (S4.box (nodC n2) 46 rfl).drop
                  generalize wC.alloc (.cells (nodC n2) 46) = w5 at *
                  generalize wC.heap.size = yb at *
                  clear S4 hl c0
                  go_wp2_with fail
                  go_ret2
                  exact HR.out ([], 12, T) HE.out _ (S5.drop.treeShut)
                | none =>
                  have hl := look_non S4.p2 hg2 true
                  have HT2 : Hid (R = if 60 ≤ T.length then ([], 16, T) else (s2, 0, mput (mput T up ⟨d, v, bl + 1, 0, md, st, sr + 1⟩) s2 ⟨data, 0, 0, owner, when_, when_, 0⟩)) := hide (by rw [HT.out]; exact createG_new hg2)
                  clear HT hg2
                  go_upto_region 19 with fail
                  have S6 := (S4.box (nodC zN) 46 rfl).drop
                  generalize wC.alloc (.cells (nodC zN) 46) = w5 at *
                  generalize wC.heap.size = yb at *
                  clear S4 hl c0 a0 a1 a2 a3 a4 a5 a6
                  obtain ⟨a0, a1, a2, a3, a4, a5, a6⟩ := S6.nod
                  have c0 := S6.p1.cell 0 _ rfl
                  have hlen := len_node S6.p2
                  by_cases h60 : 60 ≤ T.length
                  · have e : R = ([], 16, T) := by rw [HT2.out, if_pos h60]
                    have HE := hide e
                    clear e HT2
                    go_wp2_with fail
                    go_ret2
                    exact HR.out ([], 16, T) HE.out _ (S6.drop.treeShut)
                  · have e : R = (s2, 0, mput (mput T up ⟨d, v, bl + 1, 0, md, st, sr + 1⟩) s2 ⟨data, 0, 0, owner, when_, when_, 0⟩) := by rw [HT2.out, if_neg h60]
                    have HE := hide e
                    clear e HT2
                    have h60b : (T.length : Int) < 60 := by omega
                    go_upto_region 23 with fail
                    clear hlen h60b h60
                    have f6 := S6.cells_fz 6
                    go_upto_region 25 with fail
                    have S7 : Sat g (w5.setCell ⟨xb, 6, none⟩ (.int .i64 (sr + 1))) (cellsA xb 46 (nodC ⟨d, v, bl, 0, md, st, sr + 1⟩) :: cellsA b 114 #[.map (some mb)] :: mapA kS nodV mb T :: L) := S6.setc 6 (.int .i64 (sr + 1))
                    generalize w5.setCell ⟨xb, 6, none⟩ (.int .i64 (sr + 1)) = w6 at *
                    clear S6 f6 a0 a1 a2 a3 a4 a5 a6 c0

                    obtain ⟨a0, a1, a2, a3, a4, a5, a6⟩ := S7.nod
                    have f2 := S7.cells_fz 2
                    go_upto_region 26 with fail
                    have S8 : Sat g (w6.setCell ⟨xb, 2, none⟩ (.int .i64 (bl + 1))) (cellsA xb 46 (nodC ⟨d, v, bl + 1, 0, md, st, sr + 1⟩) :: cellsA b 114 #[.map (some mb)] :: mapA kS nodV mb T :: L) := S7.setc 2 (.int .i64 (bl + 1))
                    generalize w6.setCell ⟨xb, 2, none⟩ (.int .i64 (bl + 1)) = w7 at *
                    clear S7 f2 a0 a1 a2 a3 a4 a5 a6
                    have S9 := S8.drew
                    obtain ⟨a0, a1, a2, a3, a4, a5, a6⟩ := S8.nod
                    obtain ⟨b0, b1, b2, b3, b4, b5, b6⟩ := S9.nod
                    have c0 := S8.p1.cell 0 _ rfl
                    have c0' := S9.p1.cell 0 _ rfl
                    obtain ⟨w10, hup, S10⟩ := put_node S9.p2 up ⟨d, v, bl + 1, 0, md, st, sr + 1⟩
                    simp only at a0 a1 a2 a3 a4 a5 a6 b0 b1 b2 b3 b4 b5 b6
                    clear S8 S9
                    go_still_tail 6, (by kernel_rfl)
                    change wpList _ _ _ _ _ w7.drew
                    go_upto_region 27 with fail
                    clear hup c0 c0' a0 a1 a2 a3 a4 a5 a6 b0 b1 b2 b3 b4 b5 b6
                    have c0 := S10.p2.cell 0 _ rfl
                    obtain ⟨w11, hup, S11⟩ := put_node S10 s2 ⟨data, 0, 0, owner, when_, when_, 0⟩
                    clear S10
                    go_wp2_with fail
                    go_ret2
                    exact HR.out (s2, 0, mput (mput T up ⟨d, v, bl + 1, 0, md, st, sr + 1⟩) s2 ⟨data, 0, 0, owner, when_, when_, 0⟩) HE.out _ (Sat.treeShut (S11.p1.drop.p1))
              · have e : R = ([], 10, T) := by rw [HF5.out, if_pos (by simp [hc2])]
                have HE := hide e
                rw [hc2]
                clear e HF5 hc2
                go_wp2_with fail
                go_ret2
                exact HR.out ([], 10, T) HE.out _ S4.drop.treeShut
          · have hob : (a.owner != 0) = true := by simpa using how
            have e : R = ([], 15, T) := by rw [HF3.out, if_neg h47, if_neg h60, if_pos how]
            have HE := hide e
            clear e HF3 h47
            go_wp2_with fail
            go_ret2
            exact HR.out ([], 15, T) HE.out _ S4.drop.treeShut
  · have e : R = ([], 10, T) := by rw [HF.out, if_pos (by simp [hc]), hc]
    rw [hc] at hch
    have HE := hide e
    have HS0 := hide S0
    clear e HF hc S0 hb hG
    go_enter Tryz.func108, Tryz.ntmps108
    go_wp2_with fail
    refine hch.mono ?_
    rintro e w1 ⟨rfl, hk1⟩
    clear hch
    go_wp2_with fail
    go_ret2
    exact HR.out ([], 10, T) HE.out _ (HS0.out.keep hk1)
end
end Go.Proofs.YtanlobdidjednaaGreatDoor
