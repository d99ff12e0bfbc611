/- Contracts of the package tree: what a tree is, New, Len, Get. No condition. -/
import Derived.Test.YtecpfnobnpddaaaDoorPath
import Derived.Test.YtecpfnobnpddaaaDoorStructs
set_option linter.unusedVariables false
set_option linter.unusedSimpArgs false
namespace Go.Proofs.YtecpfnobnpddaaaDoor
open Go.RowKit

/-- a node -/
structure NodeT where
  data : List UInt8
  version : Int
  below : Int
  owner : Int
  made : Int
  set : Int
  serial : Int
deriving DecidableEq
def zN : NodeT := ⟨[], 0, 0, 0, 0, 0, 0⟩
abbrev nodV (n : NodeT) : Value := .agg #[.string (S n.data), .int .i64 n.version, .int .i64 n.below, .int .i64 n.owner, .int .i64 n.made, .int .i64 n.set, .int .i64 n.serial]
abbrev TreeT := List (List UInt8 × NodeT)
abbrev kS (k : List UInt8) : Value := .string (S k)
theorem kTS : KeyT Tryd.prog 9 .string kS := ⟨Tryd.underlying9, fun _ => trivial, fun a b h => S_inj (by injection h)⟩
theorem zeroN (w : World) : (zeroValue 30).run Tryd.prog w = .ok (nodV zN) w := by kernel_rfl

def treeA (b : Nat) (T : TreeT) : Asn := exA fun mb : Nat => star (cellsA b 73 #[.map (some mb)]) (mapA kS nodV mb T)
section
variable {g w w' : World} {L : List Asn} {b mb : Nat} {T : TreeT}
theorem Sat.treeOpen (S : Sat g w (treeA b T :: L)) : ∃ mb, Sat g w (cellsA b 73 #[.map (some mb)] :: mapA kS nodV mb T :: L) := by
  obtain ⟨mb, S⟩ := S.ex
  exact ⟨mb, S.split⟩
theorem Sat.treeShut (S : Sat g w (cellsA b 73 #[.map (some mb)] :: mapA kS nodV mb T :: L)) : Sat g w (treeA b T :: L) := Sat.ex_ mb S.join
theorem Sat.treeNodup (S : Sat g w (treeA b T :: L)) : (keys T).Nodup := by
  obtain ⟨mb, S⟩ := S.treeOpen
  exact S.p1.mapOf.nodup
theorem look_node (S : Sat g w (mapA kS nodV mb T :: L)) {k : List UInt8} {n : NodeT} (h : mget T k = some n) (ok : Bool) :
    (Instr.lookup 71 (.map (some mb)) (.string (Go.Proofs.YtecpfnobnpddaaaDoor.S k)) ok).run Tryd.prog w = .ok (if ok then .tuple #[nodV n, .bool true] else nodV n) w := S.mapOf.look_some kTS Tryd.underlying71 h ok
theorem look_non (S : Sat g w (mapA kS nodV mb T :: L)) {k : List UInt8} (h : mget T k = none) (ok : Bool) :
    (Instr.lookup 71 (.map (some mb)) (.string (Go.Proofs.YtecpfnobnpddaaaDoor.S k)) ok).run Tryd.prog w = .ok (if ok then .tuple #[nodV zN, .bool false] else nodV zN) w := S.mapOf.look_none kTS Tryd.underlying71 h (zeroN w) ok
theorem put_node (S : Sat g w (mapA kS nodV mb T :: L)) (k : List UInt8) (n : NodeT) :
    ∃ w', (Instr.mapUpdate 71 (.map (some mb)) (.string (Go.Proofs.YtecpfnobnpddaaaDoor.S k)) (nodV n)).run Tryd.prog w = .ok () w' ∧ Sat g w' (mapA kS nodV mb (mput T k n) :: L) := by
  obtain ⟨w', h1, h2, h3⟩ := S.mapOf.update kTS Tryd.underlying71 k n
  exact ⟨w', h1, S.mapPut h3 h2⟩
theorem del_node (S : Sat g w (mapA kS nodV mb T :: L)) (k : List UInt8) :
    ∃ w', (∀ ty, (Builtin.delete_ #[71, 9] ty #[.map (some mb), .string (Go.Proofs.YtecpfnobnpddaaaDoor.S k)]).run Tryd.prog w = .ok (.tuple #[]) w') ∧ Sat g w' (mapA kS nodV mb (mdel T k) :: L) := by
  obtain ⟨w', h1, h2, h3⟩ := S.mapOf.delete (ty := 0) (t2 := 9) kTS Tryd.underlying71 k
  exact ⟨w', fun _ => h1, S.mapPut h3 h2⟩
theorem len_node (S : Sat g w (mapA kS nodV mb T :: L)) (ty : TypeId) : (Builtin.len_ #[71] ty #[.map (some mb)]).run Tryd.prog w = .ok (.int .i64 T.length) w :=
  S.mapOf.len (ty := ty) Tryd.underlying71

theorem len_tree (S : Sat g w (treeA b T :: L)) : Calls Tryd.prog 15 #[ptr b] w fun e w' => e = .returned (.int .i64 T.length) ∧ Sat g w' (treeA b T :: L) := by
  obtain ⟨mb, S1⟩ := S.treeOpen
  have c0 := S1.cell 0 _ rfl
  have hlen := len_node S1.p1
  have HS := hide S
  clear S S1
  go_enter Tryd.func15, Tryd.ntmps15
  go_wp2_with fail
  go_ret
  exact ⟨rfl, HS.out⟩

def getF (T : TreeT) (s : List UInt8) : NodeT × Int :=
  if checkF s = 0 then (match mget T s with | some n => (n, 0) | none => (zN, 11)) else (zN, checkF s)
theorem check_cases (s : List UInt8) : checkF s = 0 ∨ checkF s = 10 := by
  unfold checkF
  split
  · exact .inl rfl
  · split
    · exact .inr rfl
    · split
      · exact .inl rfl
      · exact .inr rfl

abbrev nodC (n : NodeT) : Array Value := #[.string (S n.data), .int .i64 n.version, .int .i64 n.below, .int .i64 n.owner, .int .i64 n.made, .int .i64 n.set, .int .i64 n.serial]
theorem Sat.nod {x : Nat} {n : NodeT} (S0 : Sat g w (cellsA x 30 (nodC n) :: L)) :
    w.cell? ⟨x, 0, none⟩ = some (.string (S n.data)) ∧ w.cell? ⟨x, 1, none⟩ = some (.int .i64 n.version) ∧ w.cell? ⟨x, 2, none⟩ = some (.int .i64 n.below) ∧ w.cell? ⟨x, 3, none⟩ = some (.int .i64 n.owner) ∧
    w.cell? ⟨x, 4, none⟩ = some (.int .i64 n.made) ∧ w.cell? ⟨x, 5, none⟩ = some (.int .i64 n.set) ∧ w.cell? ⟨x, 6, none⟩ = some (.int .i64 n.serial) :=
  ⟨S0.cell 0 _ rfl, S0.cell 1 _ rfl, S0.cell 2 _ rfl, S0.cell 3 _ rfl, S0.cell 4 _ rfl, S0.cell 5 _ rfl, S0.cell 6 _ rfl⟩

abbrev zC : Array Value := #[.string ⟨#[]⟩, .int .i64 0, .int .i64 0, .int .i64 0, .int .i64 0, .int .i64 0, .int .i64 0]
set_option maxHeartbeats 1000000 in
theorem get_tree (S0 : Sat g w (treeA b T :: L)) (hG : GL w) (s : List UInt8) (hs : s.length ≤ 9223372036854775807) :
    Calls Tryd.prog 14 #[ptr b, .string (S s)] w fun e w' => e = .returned (.tuple #[nodV (getF T s).1, .int .i64 (getF T s).2]) ∧ Sat g w' (treeA b T :: L) := by
  have HF : Hid (getF T s = if checkF s = 0 then (match mget T s with | some n => (n, 0) | none => (zN, 11)) else (zN, checkF s)) := rfl
  have hch := fun w hG => check_path w s hs hG
  have hcc := check_cases s
  generalize getF T s = G at *
  generalize checkF s = C at *
  have S1 := S0.box zC 30 rfl
  have hG1 : GL (w.alloc (.cells zC 30)) := hG.keep ((Keeps.refl (fun _ => False) w).alloc _) (fun h => h)
  go_enter Tryd.func14, Tryd.ntmps14
  go_upto_region 1 with fail
  generalize w.alloc (.cells zC 30) = w1 at *
  generalize w.heap.size = rb at *
  go_wp2_with fail
  refine (hch w1 hG1).mono ?_
  rintro e w2 ⟨rfl, hk2⟩
  have S2 := S1.keep hk2
  clear S0 S1 hG hG1 hch hk2
  rcases hcc with rfl | rfl
  · obtain ⟨mb, S3⟩ := S2.p1.treeOpen
    clear S2
    have c0 := S3.cell 0 _ rfl
    cases hg : mget T s with
    | some n =>
      have e : G = (n, 0) := by rw [HF.out, if_pos rfl, hg]
      subst e
      have hl := look_node S3.p1 hg true
      clear HF hg
      go_upto_region 6 with fail
      have S4 := S3.box (nodC n) 30 rfl
      generalize w2.alloc (.cells (nodC n) 30) = w3 at *
      generalize w2.heap.size = xb at *
      obtain ⟨a0, a1, a2, a3, a4, a5, a6⟩ := S4.nod
      clear S3 c0 hl
      go_wp2_with ((show Go.wpList _ _ _ (Oper.mk none (Op.store _ _ _) _ _ _ _ :: _) _ _); refine wpList_sstore rfl _ (.tmp 4) (.tmp 27) rfl S4.p3 _ rfl rfl (by kernel_rfl) rfl (by simp [Value.oneCell']) ?_; intro S8)
      refine bodyPost_ret (results_row_tmp Tryd.results14 _ _ rb _ _ _ _ rfl S8.cells_get Tryd.underlying30 rfl (by kernel_rfl)) rfl ?_
      exact ⟨rfl, S8.drop.drop.treeShut⟩
    | none =>
      have e : G = (zN, 11) := by rw [HF.out, if_pos rfl, hg]
      subst e
      have hl := look_non S3.p1 hg true
      clear HF hg
      go_upto_region 6 with fail
      have S4 := S3.box (nodC zN) 30 rfl
      generalize w2.alloc (.cells (nodC zN) 30) = w3 at *
      generalize w2.heap.size = xb at *
      clear S3 c0 hl
      go_wp2_with ((show Go.wpList _ _ _ (Oper.mk none (Op.store _ _ _) _ _ _ _ :: _) _ _); refine wpList_sstore rfl _ (.tmp 4) (.tmp 28) rfl S4.p3 _ rfl rfl (by kernel_rfl) rfl (by simp [Value.oneCell']) ?_; intro S8)
      refine bodyPost_ret (results_row_tmp Tryd.results14 _ _ rb _ _ _ _ rfl S8.cells_get Tryd.underlying30 rfl (by kernel_rfl)) rfl ?_
      exact ⟨rfl, S8.drop.drop.treeShut⟩
  · have e : G = (zN, 10) := by rw [HF.out, if_neg (by decide)]
    subst e
    clear HF
    go_wp2_with ((show Go.wpList _ _ _ (Oper.mk none (Op.store _ _ _) _ _ _ _ :: _) _ _); refine wpList_sstore rfl _ (.tmp 4) (.tmp 13) rfl S2 _ rfl rfl (by kernel_rfl) rfl (by simp [Value.oneCell']) ?_; intro S8)
    refine bodyPost_ret (results_row_tmp Tryd.results14 _ _ rb _ _ _ _ rfl S8.cells_get Tryd.underlying30 rfl (by kernel_rfl)) rfl ?_
    exact ⟨rfl, S8.drop⟩
end

/-! ### plain: what Create, Set, Delete do -/
def createG (T : TreeT) (s up : List UInt8) (a : NodeT) (data : List UInt8) (owner when_ : Int) (serial : Bool) : List UInt8 × Int × TreeT :=
  if (mget T s).isSome = true then ([], 12, T) else if 60 ≤ T.length then ([], 16, T)
  else (s, 0, mput (mput T up ⟨a.data, a.version, a.below + 1, a.owner, a.made, a.set, if serial = true then a.serial + 1 else a.serial⟩) s ⟨data, 0, 0, owner, when_, when_, 0⟩)
def createF (T : TreeT) (s data : List UInt8) (owner when_ : Int) (serial : Bool) : List UInt8 × Int × TreeT :=
  if checkF s ≠ 0 then ([], checkF s, T) else if s = [47] then ([], 12, T) else if 60 < data.length then ([], 3, T) else
  match mget T (upF s).1 with
  | none => ([], 11, T)
  | some a => if a.owner ≠ 0 then ([], 15, T) else
    if serial = true then (if checkF (serialF s a.serial) ≠ 0 then ([], 10, T) else createG T (serialF s a.serial) (upF s).1 a data owner when_ true)
    else createG T s (upF s).1 a data owner when_ false
def atF (T : TreeT) (s : List UInt8) (v : Int) : NodeT × Int :=
  if (getF T s).2 = 0 ∧ 0 ≤ v ∧ (getF T s).1.version ≠ v then (zN, 14) else getF T s
def setF (T : TreeT) (s data : List UInt8) (v when_ : Int) : Int × Int × TreeT :=
  if (atF T s v).2 ≠ 0 then (0, (atF T s v).2, T) else if 60 < data.length then (0, 3, T) else
  ((atF T s v).1.version + 1, 0, mput T s ⟨data, (atF T s v).1.version + 1, (atF T s v).1.below, (atF T s v).1.owner, (atF T s v).1.made, when_, (atF T s v).1.serial⟩)

theorem mput_head {κ α : Type} [DecidableEq κ] {m : List (κ × α)} {k : κ} {v v' : α} (h : k ∉ keys m) : mput ((k, v) :: m) k v' = (k, v') :: m := by
  unfold mput
  rw [if_pos (by simp [mget])]
  simp only [List.map_cons, if_true]
  congr 1
  conv => rhs; rw [← List.map_id m]
  apply List.map_congr_left
  intro q hq
  have : ¬ q.1 = k := fun e => h (List.mem_map.2 ⟨q, hq, e⟩)
  simp [this]
theorem mput_new {κ α : Type} [DecidableEq κ] {m : List (κ × α)} {k : κ} {v : α} (h : mget m k = none) : mput m k v = m ++ [(k, v)] := by
  unfold mput
  rw [h]
  rfl

end Go.Proofs.YtecpfnobnpddaaaDoor
