/- The law OpLong, walked. No condition. -/
import Derived.Test.YtinpnnfeggjbeaaOpApart
set_option linter.unusedVariables false
namespace Go.Proofs.Ytinpnnfeggjbeaa
open Go.RowKit

theorem S_a (l : List UInt8) : S l ++ ⟨#[97]⟩ = S (l ++ [97]) := by
  apply ByteArray.ext
  simp [S]
def strLen : Value → Nat
  | .string s => s.size
  | _ => 0

def longC (p d : List UInt8) : CmdT := ⟨3, 1, 1, 0, List.replicate 4 (⟨2, p, d, 0, false, false⟩ : OpT), [], false, false⟩
theorem long_right (p d : List UInt8) (hp : p.length ≤ 60) (hd : d.length ≤ 61) : cmdR (longC p d) = true := by
  have ho : opR (⟨2, p, d, 0, false, false⟩ : OpT) = true := by simp [opR, hp, hd]
  simp [cmdR, longC, numR, wrongF, ho]
theorem long_len (p d : List UInt8) (hp : p.length ≤ 60) (hd : d.length ≤ 61) : (cmdB (longC p d)).length = 30 + 4 * (18 + p.length + d.length) + 4 := by
  have h5 : (cut16 p).length = p.length := by unfold cut16; simp; omega
  have h6 : (cut16 d).length = d.length := by unfold cut16; simp; omega
  have h7 : (cut16 []).length = 0 := rfl
  simp only [cmdB, longC, List.replicate, opB, List.length_append, nums_length, txts, List.flatMap_cons, List.flatMap_nil, txt_length, flags, List.length_map, List.length_cons, List.length_nil, h5, h6, h7]
  omega

set_option maxRecDepth 100000 in
set_option maxHeartbeats 4000000 in
theorem long_walk (W : World) (n0 m0 : Int) :
    Calls Try.prog 7 #[.int .i64 n0, .int .i64 m0] W fun e w' => e = .returned (.bool true) ∧ Keeps (fun k => W.heap.size ≤ k) W w' := by
  have HF : Hid (∀ {w w' : World}, Keeps (fun _ => False) w w' → Keeps (fun k => w.heap.size ≤ k) w w') := fun h => h.mono (fun _ _ h => h.elim)
  obtain ⟨n1, n2⟩ : 0 ≤ bits .and .i64 n0 63 ∧ bits .and .i64 n0 63 ≤ 63 := and_le n0 63 (by decide)
  obtain ⟨m1, m2⟩ : 0 ≤ bits .and .i64 m0 63 ∧ bits .and .i64 m0 63 ≤ 63 := and_le m0 63 (by decide)
  go_enter Try.func7, Try.ntmps7
  go_wp2_with fail
  refine (head_op W).mono ?_
  rintro e w0 ⟨rfl, hk0⟩
  have HK := hide hk0
  clear hk0
  go_upto_region 5 with fail
  generalize bits .and .i64 n0 63 = n at *
  generalize bits .and .i64 m0 63 = m at *
  obtain ⟨N, hN, hN6⟩ : ∃ N : Int, (if 60 < n then 60 else n) = N ∧ N ≤ 60 := ⟨_, rfl, by split <;> omega⟩
  obtain ⟨M, hM, hM6⟩ : ∃ M : Int, (if 61 < m then 61 else m) = M ∧ M ≤ 61 := ⟨_, rfl, by split <;> omega⟩
  go_wp2_with fail
  go_loopw [5] (fun v wr => ∃ p : List UInt8, v = .string (S p) ∧ p.length ≤ 60 ∧ wr = w0) (fun v _ => 64 - strLen v)
  case atStart => exact ⟨[47], rfl, by decide, rfl⟩
  case round =>
    obtain ⟨p, rfl, hp, rfl⟩ := hrel
    go_wp2_with fail
    · go_roundw
      case rel => exact ⟨p ++ [97], congrArg Value.string (S_a p), by simp; omega, trivial⟩
      case measure =>
        show 64 - (S p ++ ⟨#[97]⟩).size < 64 - (S p).size
        rw [S_a, S_size, S_size, List.length_append]; simp; omega
    all_goals
      go_loopw [6] (fun v wq => ∃ d : List UInt8, v = .string (S d) ∧ d.length ≤ 61 ∧ wq = wr) (fun v _ => 64 - strLen v)
      case atStart => exact ⟨[], rfl, by decide, rfl⟩
      case round =>
        obtain ⟨d, rfl, hd, rfl⟩ := hrel
        go_wp2_with fail
        · go_roundw
          case rel => exact ⟨d ++ [120], congrArg Value.string (S_x d), by simp; omega, trivial⟩
          case measure =>
            show 64 - (S d ++ ⟨#[120]⟩).size < 64 - (S d).size
            rw [S_x, S_size, S_size, List.length_append]; simp; omega
        all_goals
          refine (show Calls _ _ _ _ fun e w' => e = .returned (.agg #[.int .i64 3, .int .i64 1, .int .i64 1, .int .i64 0, .slice none 0 0, .string ⟨#[]⟩, .bool false, .bool false]) ∧ Keeps (fun _ => False) _ w' from made_cmd _ 1 1 [] none 0).mono ?_
          rintro e w1 ⟨rfl, hk⟩
          have HK1 := hide (HK.out.trans' hk)
          clear hk HK
          go_wp2_with fail
          have HB := hide (Blk.new (w := w1) (cs := #[.int .i64 3, .int .i64 1, .int .i64 1, .int .i64 0, .slice none 0 0, .string ⟨#[]⟩, .bool false, .bool false]) (e := 43) rfl)
          have HK2 := hide (HK1.out.alloc (.cells #[.int .i64 3, .int .i64 1, .int .i64 1, .int .i64 0, .slice none 0 0, .string ⟨#[]⟩, .bool false, .bool false] 43))
          have HKZ := HK1
          clear HK1
          have hsz : w1.heap.size < (w1.alloc (.cells #[.int .i64 3, .int .i64 1, .int .i64 1, .int .i64 0, .slice none 0 0, .string ⟨#[]⟩, .bool false, .bool false] 43)).heap.size := by simp
          have HW : Hid (W.heap.size ≤ w1.heap.size) := HKZ.out.size
          clear HKZ
          generalize w1.alloc (.cells #[.int .i64 3, .int .i64 1, .int .i64 1, .int .i64 0, .slice none 0 0, .string ⟨#[]⟩, .bool false, .bool false] 43) = w2 at *
          generalize w1.heap.size = db at *
          go_loopw [8] (fun i wq => ∃ k : Nat, k ≤ 4 ∧ i = .int .i64 k ∧ ∃ (B : Option Addr) (cb : Nat), Blk wq db 43 #[.int .i64 3, .int .i64 1, .int .i64 1, .int .i64 0, .slice B k cb, .string ⟨#[]⟩, .bool false, .bool false] ∧ Row wq 52 6 (.slice B k cb) k ((List.replicate k (⟨2, p, d, 0, false, false⟩ : OpT)).flatMap opC) ∧ (∀ ad, B = some ad → db < ad.block) ∧ Keeps (fun _ => False) W wq) (fun i _ => 4 - (intOf i).toNat)
          case atStart => exact ⟨0, by omega, rfl, none, 0, HB.out, Row.nil _ _ _, (fun ad h => by cases h), HK2.out⟩
          case round =>
            obtain ⟨k, hk4, rfl, B, cb, hb, hrow, hbg, hK⟩ := hrel
            clear HB HK2
            have HB := hide hb
            have HROW := hide hrow
            have HBG := hide hbg
            have HK2 := hide hK
            clear hb hrow hbg hK
            by_cases hlt : k < 4
            · have q4 : wr.cell? ⟨db, 4, none⟩ = some (.slice B k cb) := HB.out.cell 4 _ rfl
              go_wp2_with (at_builtin; go_must (refine wpList_app slO rfl (.tmp 38) (.tmp 42) rfl (Row.alloc HROW.out _) rfl (Src.block (heap_alloc_new _ _) 6 1 rfl) rfl (by simp [Value.oneCell']) (by unfold maxLen; omega) (by omega) ?_); intro v9 w9 hrow9 hg9; obtain ⟨B9, cb9, e9, _, _, hs9, had9⟩ := Row.form hrow9; have hb9 := (HB.out.alloc _).kept hg9.keeps (by cases hB : B with | none => simp [Value.ownBlock] | some ad => have := HBG.out ad hB; simp [Value.ownBlock]; omega); have p9 : w9.cell? ⟨db, 4, none⟩ = some (.slice B k cb) := hb9.cell 4 _ rfl; have f9 := hb9.fz 4; have HB9 := hide hb9; have HG9 := hide hg9; have HAD9 := hide had9; have HR9 := hide hrow9; clear hb9 hs9 hg9 had9 hrow9; subst e9)
              go_roundw
              case rel =>
                have hown9 : ∀ g, (Value.slice B9 (k + 1) cb9).ownBlock = some g → db < g := by
                  intro g e
                  rcases HG9.out.new g e with h | h
                  · cases hB : B with
                    | none => rw [hB] at h; simp [Value.ownBlock] at h
                    | some ad => rw [hB] at h; simp [Value.ownBlock] at h; have := HBG.out ad hB; omega
                  · have := HB.out.lt; simp at h; omega
                have hks : Keeps (fun k => k = db) w9 (w9.setCell ⟨db, 4, none⟩ (.slice B9 (k + 1) cb9)) := (Keeps.refl (fun k => k = db) w9).setCell (p := ⟨db, 4, none⟩) (fun _ => rfl) _
                refine ⟨k + 1, by omega, by go_num, B9, cb9, HB9.out.set 4 _, ?_, (fun ad e => hown9 _ (HAD9.out ad e).1), ?_⟩
                · refine Row.kept ?_ hks (fun g hg e => by have := hown9 g hg; omega)
                  rw [List.replicate_succ', List.flatMap_append]
                  exact HR9.out
                · refine ((HK2.out.alloc (.cells #[.int .i64 2, .string (S p), .string (S d), .int .i64 0, .bool false, .bool false] 52)).trans HG9.out.keeps (fun i hi e => ?_)).trans hks (fun i hi e => by have := HW.out; omega)
                  cases hB : B with
                  | none => rw [hB] at e; simp [Value.ownBlock] at e
                  | some ad => rw [hB] at e; simp [Value.ownBlock] at e; have := HBG.out ad hB; have := HW.out; omega
              case measure => simp [intOf]; omega
            · obtain rfl : k = 4 := by omega
              have hc := long_right p d hp hd
              have hlen := long_len p d hp hd
              have hsrc : OpSrc wr B (longC p d).ops := by
                obtain ⟨A', c', e, _, _, hs, _⟩ := Row.form HROW.out
                injection e with e1 e2 e3
                subst e1
                exact hs
              have hby : bytesF (longC p d) = if 488 < 30 + 4 * (18 + p.length + d.length) + 4 then ([], 3) else (cmdB (longC p d), 0) := by
                unfold bytesF
                rw [hc, hlen]
                rfl
              have HBY := hide hby
              have HSRC := hide hsrc
              have HOK := hide (ok_of hc)
              have HLEN := hide hlen
              have q0 : wr.cell? ⟨db, 0, none⟩ = some (.int .i64 3) := HB.out.cell 0 _ rfl
              have q1 : wr.cell? ⟨db, 1, none⟩ = some (.int .i64 1) := HB.out.cell 1 _ rfl
              have q2 : wr.cell? ⟨db, 2, none⟩ = some (.int .i64 1) := HB.out.cell 2 _ rfl
              have q3 : wr.cell? ⟨db, 3, none⟩ = some (.int .i64 0) := HB.out.cell 3 _ rfl
              have q4 : wr.cell? ⟨db, 4, none⟩ = some (.slice B 4 cb) := HB.out.cell 4 _ rfl
              have q5 : wr.cell? ⟨db, 5, none⟩ = some (.string ⟨#[]⟩) := HB.out.cell 5 _ rfl
              have q6 : wr.cell? ⟨db, 6, none⟩ = some (.bool false) := HB.out.cell 6 _ rfl
              have q7 : wr.cell? ⟨db, 7, none⟩ = some (.bool false) := HB.out.cell 7 _ rfl
              clear hby hsrc hc hlen
              go_wp2_with fail
              by_cases hbig : 488 < 30 + 4 * (18 + p.length + d.length) + 4
              · have hby := HBY.out
                rw [if_pos hbig] at hby
                refine (show Calls _ _ _ _ fun e w' => e = .returned (.tuple #[.string (S []), .int .i64 3]) ∧ Keeps (fun _ => False) _ w' from bytes_eq _ (longC p d) B cb HSRC.out HOK.out hby).mono ?_
                rintro e w1 ⟨rfl, hk⟩
                have HK3 := hide (HK2.out.trans' hk)
                clear hk hby
                go_wp2_with fail
                all_goals
                  go_ret
                  exact ⟨rfl, HF.out HK3.out⟩
              · have hby := HBY.out
                rw [if_neg hbig] at hby
                refine (show Calls _ _ _ _ fun e w' => e = .returned (.tuple #[.string (S (cmdB (longC p d))), .int .i64 0]) ∧ Keeps (fun _ => False) _ w' from bytes_eq _ (longC p d) B cb HSRC.out HOK.out hby).mono ?_
                rintro e w1 ⟨rfl, hk⟩
                have HK3 := hide (HK2.out.trans' hk)
                clear hk hby
                obtain ⟨cbs, hcb⟩ : ∃ cbs, cbs = cmdB (longC p d) := ⟨_, rfl⟩
                have hl := HLEN.out
                rw [← hcb] at hl ⊢
                have HL := hide hl
                have hl1 : cbs.length ≤ 30 + 4 * (18 + p.length + d.length) + 4 := by omega
                have hl2 : 30 + 4 * (18 + p.length + d.length) + 4 ≤ cbs.length := by omega
                clear hl hcb
                go_wp2_with fail
                all_goals
                  go_ret
                  first
                    | exact ⟨rfl, HF.out HK3.out⟩
                    | (refine ⟨?_, HF.out HK3.out⟩
                       congr 2
                       simp
                       omega)

end Go.Proofs.Ytinpnnfeggjbeaa
