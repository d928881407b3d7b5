/- The evaluator of closed calls, part Fb: what the program computes on given inputs, read by the kernel; sound in every world (part Gh). -/
import Derived.Test.YtendmajekgmkhaaGreatDoorFa
set_option linter.unusedVariables false
set_option linter.unusedSimpArgs false
set_option linter.unnecessarySimpa false
namespace Go.Ev

structure Mp where
  b : Pos → Nat
  c : Pos → Nat
def Mp.set (m : Mp) (n : Pos) (blk cap : Nat) : Mp := ⟨fun k => if k = n then blk else m.b k, fun k => if k = n then cap else m.c k⟩

mutual
def γ (m : Mp) : AVal → Value
  | .int k n => .int k n
  | .bool b => .bool b
  | .ptr n off => .pointer (some ⟨m.b n, off, none⟩)
  | .slc n off len (.exact c) => .slice (some ⟨m.b n, off, none⟩) len c
  | .slc n off len (.rest d) => .slice (some ⟨m.b n, off, none⟩) len (m.c n - d)
  | .str s => .string ⟨⟨s⟩⟩
  | .agg l => .agg ⟨γs m l⟩
  | .tup l => .tuple ⟨γs m l⟩
  | .ptrNil => .pointer none
  | .slcNil => .slice none 0 0
  | .mapNil => .map none
  | .map n => .map (some (m.b n))
  | .func fn x y => .func fn ⟨γs m x⟩ ⟨γs m y⟩
  | .nilFunc => .nilFunc
  | .iface t v => .iface t (γ m v)
  | .nilIface => .nilIface
  | .yld n => .func (.yield (m.b n)) #[] #[]
  | .opq v => v
def γs (m : Mp) : List AVal → List Value
  | [] => []
  | v :: l => γ m v :: γs m l
end
theorem γs_map (m : Mp) : ∀ l, γs m l = l.map (γ m)
  | [] => rfl
  | v :: l => by simp [γs, γs_map m l]
theorem γs_length (m : Mp) (l : List AVal) : (γs m l).length = l.length := by simp [γs_map]
theorem γs_append (m : Mp) (a b : List AVal) : γs m (a ++ b) = γs m a ++ γs m b := by simp [γs_map]

mutual
def In (D : Pos → Prop) : AVal → Prop
  | .ptr n _ => D n
  | .slc n _ _ _ => D n
  | .map n => D n
  | .yld n => D n
  | .agg l => InL D l
  | .tup l => InL D l
  | .func _ x y => InL D x ∧ InL D y
  | .iface _ v => In D v
  | .opq v => v.oneCell' = true
  | .int _ _ | .bool _ | .str _ | .ptrNil | .slcNil | .mapNil | .nilFunc | .nilIface => True
def InL (D : Pos → Prop) : List AVal → Prop
  | [] => True
  | v :: l => In D v ∧ InL D l
end
theorem InL_iff {D : Pos → Prop} : ∀ l, InL D l ↔ ∀ v ∈ l, In D v
  | [] => by simp [InL]
  | v :: l => by simp [InL, InL_iff l]
mutual
theorem γ_congr {D : Pos → Prop} {m m' : Mp} (h : ∀ n, D n → m'.b n = m.b n ∧ m'.c n = m.c n) : ∀ v, In D v → γ m' v = γ m v
  | .ptr n _, hv => by simp [γ, (h n hv).1]
  | .slc n _ _ (.exact _), hv => by simp [γ, (h n hv).1]
  | .slc n _ _ (.rest _), hv => by simp [γ, (h n hv).1, (h n hv).2]
  | .map n, hv => by simp [γ, (h n hv).1]
  | .yld n, hv => by simp [γ, (h n hv).1]
  | .agg l, hv => by simp only [γ]; rw [γs_congr h l hv]
  | .tup l, hv => by simp only [γ]; rw [γs_congr h l hv]
  | .func _ x y, hv => by simp only [γ]; rw [γs_congr h x hv.1, γs_congr h y hv.2]
  | .iface _ v, hv => by simp only [γ]; rw [γ_congr h v hv]
  | .int _ _, _ | .bool _, _ | .str _, _ | .ptrNil, _ | .slcNil, _ | .mapNil, _ | .nilFunc, _ | .nilIface, _ | .opq _, _ => rfl
theorem γs_congr {D : Pos → Prop} {m m' : Mp} (h : ∀ n, D n → m'.b n = m.b n ∧ m'.c n = m.c n) : ∀ l, InL D l → γs m' l = γs m l
  | [], _ => rfl
  | v :: l, hv => by simp only [γs]; rw [γ_congr h v hv.1, γs_congr h l hv.2]
end
mutual
theorem In_mono {D D' : Pos → Prop} (h : ∀ n, D n → D' n) : ∀ v, In D v → In D' v
  | .opq _, hv => hv
  | .ptr n _, hv => h n hv
  | .slc n _ _ _, hv => h n hv
  | .map n, hv => h n hv
  | .yld n, hv => h n hv
  | .agg l, hv => InL_mono h l hv
  | .tup l, hv => InL_mono h l hv
  | .func _ x y, hv => ⟨InL_mono h x hv.1, InL_mono h y hv.2⟩
  | .iface _ v, hv => In_mono h v hv
  | .int _ _, _ | .bool _, _ | .str _, _ | .ptrNil, _ | .slcNil, _ | .mapNil, _ | .nilFunc, _ | .nilIface, _ => trivial
theorem InL_mono {D D' : Pos → Prop} (h : ∀ n, D n → D' n) : ∀ l, InL D l → InL D' l
  | [], _ => trivial
  | v :: l, hv => ⟨In_mono h v hv.1, InL_mono h l hv.2⟩
end
mutual
theorem γ_ofValue (m : Mp) : ∀ v : Value, γ m (AVal.ofValue v) = v := by
  intro v
  unfold AVal.ofValue
  split <;> simp only [γ]
  · rw [γs_ofValues]
  · rw [γs_ofValues]
theorem γs_ofValues (m : Mp) : ∀ l : List Value, γs m (AVal.ofValues l) = l
  | [] => rfl
  | v :: l => by simp only [AVal.ofValues, γs]; rw [γ_ofValue m v, γs_ofValues m l]
end
mutual
theorem In_ofValue (D : Pos → Prop) : ∀ v : Value, In D (AVal.ofValue v) := by
  intro v
  unfold AVal.ofValue
  split <;> simp only [In]
  · exact InL_ofValues D _
  · exact InL_ofValues D _
  · rename_i h1 h2
    cases v with
    | agg c => exact (h1 c.toList rfl).elim
    | tuple c => exact (h2 c.toList rfl).elim
    | _ => rfl
theorem InL_ofValues (D : Pos → Prop) : ∀ l : List Value, InL D (AVal.ofValues l)
  | [] => trivial
  | v :: l => ⟨In_ofValue D v, InL_ofValues D l⟩
end
/-- The cells of a value. -/
theorem γ_cells {D : Pos → Prop} (m : Mp) {v : AVal} (h : In D v) : (γ m v).cells = ⟨γs m v.cells⟩ := by
  cases v <;> try rfl
  · rename_i n o l c; cases c <;> rfl
  · rename_i u; cases u <;> first | rfl | cases h
theorem InL_cells {D : Pos → Prop} {v : AVal} (h : In D v) : InL D v.cells := by
  cases v <;> first | exact h | exact ⟨h, trivial⟩
end Go.Ev
