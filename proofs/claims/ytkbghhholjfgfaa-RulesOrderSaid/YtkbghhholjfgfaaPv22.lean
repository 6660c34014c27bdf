import Derived.Test.YtkbghhholjfgfaaPv21
set_option linter.unusedSimpArgs false
set_option linter.unusedVariables false
namespace Pv
open Go

structure NAddr where
  six : Bool
  b : Vector UInt8 16
  deriving DecidableEq

structure NCidr where
  addr : NAddr
  bits : Int
  deriving DecidableEq

structure NPoint where
  addr : NAddr
  port : Int
  deriving DecidableEq

structure NKey where
  space : ByteArray
  name : ByteArray
  deriving DecidableEq

structure NFront where
  proto : Int
  point : NPoint
  service : NKey
  name : ByteArray
  how : Int
  loc : Bool
  asked : Bool
  ticks : Int
  deriving DecidableEq

structure NId where
  service : NKey
  name : ByteArray
  six : Bool
  loc : Bool
  deriving DecidableEq

structure NFilter where
  service : NKey
  ranges : List NCidr
  deriving DecidableEq

structure NTable where
  size : Int
  backends : List NPoint
  slots : List Int
  deriving DecidableEq

structure NGroup where
  id : NId
  table : NTable
  deriving DecidableEq

structure NRows where
  fronts : List NFront
  groups : List NGroup
  filters : List NFilter
  deriving DecidableEq

def pvBy (l : List UInt8) : List PV := l.map fun b => .int .u8 b.toNat
def pvB (l : Vector UInt8 16) : List PV := pvBy l.toList
def NAddr.cs (a : NAddr) : List PV := .bool a.six :: pvB a.b
def NAddr.pv (a : NAddr) : PV := .agg a.cs
def NCidr.cs (a : NCidr) : List PV := a.addr.cs ++ [.int .i64 a.bits]
def NCidr.pv (a : NCidr) : PV := .agg a.cs
def NPoint.cs (a : NPoint) : List PV := a.addr.cs ++ [.int .i64 a.port]
def NPoint.pv (a : NPoint) : PV := .agg a.cs
def NKey.cs (a : NKey) : List PV := [.str a.space, .str a.name]
def NKey.pv (a : NKey) : PV := .agg a.cs
def NFront.cs (a : NFront) : List PV := [.int .i64 a.proto] ++ a.point.cs ++ a.service.cs ++ [.str a.name, .int .i64 a.how, .bool a.loc, .bool a.asked, .int .i64 a.ticks]
def NFront.pv (a : NFront) : PV := .agg a.cs
def NId.cs (a : NId) : List PV := a.service.cs ++ [.str a.name, .bool a.six, .bool a.loc]
def NId.pv (a : NId) : PV := .agg a.cs
def NFilter.cs (a : NFilter) : List PV := a.service.cs ++ [.sl 18 (a.ranges.map NCidr.pv)]
def NFilter.pv (a : NFilter) : PV := .agg a.cs
def NTable.cs (a : NTable) : List PV := [.int .i64 a.size, .sl 18 (a.backends.map NPoint.pv), .sl 1 (a.slots.map (.int .i64))]
def NTable.pv (a : NTable) : PV := .agg a.cs
def NGroup.cs (a : NGroup) : List PV := a.id.cs ++ a.table.cs
def NGroup.pv (a : NGroup) : PV := .agg a.cs
def NRows.cs (a : NRows) : List PV := [.sl 26 (a.fronts.map NFront.pv), .sl 8 (a.groups.map NGroup.pv), .sl 3 (a.filters.map NFilter.pv)]
def NRows.pv (a : NRows) : PV := .agg a.cs

@[simp] theorem pvB_length (l : Vector UInt8 16) : (pvB l).length = 16 := by simp [pvB, pvBy]
@[simp] theorem NAddr.cs_length (a : NAddr) : a.cs.length = 17 := by simp [NAddr.cs]
@[simp] theorem NCidr.cs_length (a : NCidr) : a.cs.length = 18 := by simp [NCidr.cs]
@[simp] theorem NPoint.cs_length (a : NPoint) : a.cs.length = 18 := by simp [NPoint.cs]
@[simp] theorem NKey.cs_length (a : NKey) : a.cs.length = 2 := by simp [NKey.cs]
@[simp] theorem NFront.cs_length (a : NFront) : a.cs.length = 26 := by simp [NFront.cs]
@[simp] theorem NId.cs_length (a : NId) : a.cs.length = 5 := by simp [NId.cs]
@[simp] theorem NFilter.cs_length (a : NFilter) : a.cs.length = 3 := by simp [NFilter.cs]
@[simp] theorem NTable.cs_length (a : NTable) : a.cs.length = 3 := by simp [NTable.cs]
@[simp] theorem NGroup.cs_length (a : NGroup) : a.cs.length = 8 := by simp [NGroup.cs]
@[simp] theorem NRows.cs_length (a : NRows) : a.cs.length = 3 := by simp [NRows.cs]

/-- Cells fit for memory, that name no box. -/
def goodC (l : List PV) : Bool := l.all fun p => p.cellB && p.closed
theorem goodC_append {a b : List PV} : goodC (a ++ b) = (goodC a && goodC b) := by simp [goodC]
theorem goodC_ints (k : IntKind) (l : List Int) : goodC (l.map (.int k)) = true := by
  simp [goodC, PV.cellB, PV.closed, PV.within]
@[simp] theorem NAddr.good (a : NAddr) : goodC a.cs = true := by
  have : goodC (pvB a.b) = true := by simp [pvB, pvBy, goodC, PV.cellB, PV.closed, PV.within]
  show goodC ([_] ++ pvB a.b) = true
  rw [goodC_append, this]; rfl
@[simp] theorem NCidr.good (a : NCidr) : goodC a.cs = true := by simp only [NCidr.cs, goodC_append, NAddr.good]; rfl
@[simp] theorem NPoint.good (a : NPoint) : goodC a.cs = true := by simp only [NPoint.cs, goodC_append, NAddr.good]; rfl
@[simp] theorem NKey.good (a : NKey) : goodC a.cs = true := rfl
@[simp] theorem NFront.good (a : NFront) : goodC a.cs = true := by simp only [NFront.cs, goodC_append, NPoint.good, NKey.good]; rfl
@[simp] theorem NId.good (a : NId) : goodC a.cs = true := by simp only [NId.cs, goodC_append, NKey.good]; rfl
@[simp] theorem NFilter.good (a : NFilter) : goodC a.cs = true := by simp only [NFilter.cs, goodC_append, NKey.good]; rfl
@[simp] theorem NTable.good (a : NTable) : goodC a.cs = true := rfl
@[simp] theorem NGroup.good (a : NGroup) : goodC a.cs = true := by simp only [NGroup.cs, goodC_append, NId.good, NTable.good]; rfl
@[simp] theorem NRows.good (a : NRows) : goodC a.cs = true := rfl

theorem closed_of_good {l : List PV} (h : goodC l = true) : (PV.agg l).closed = true := by
  simp only [PV.closed, PV.within]
  induction l with
  | nil => rfl
  | cons x t ih =>
    simp only [goodC, List.all_cons, Bool.and_eq_true] at h
    simp only [PV.within.go, Bool.and_eq_true]
    exact ⟨h.1.2, ih h.2⟩
theorem okElem_of_good {l : List PV} (h : goodC l = true) {n : Nat} (hn : l.length = n) : okElem (.agg l) n = true := by
  simp only [okElem, PV.cells, hn, beq_self_eq_true, Bool.true_and]
  simp only [goodC, List.all_eq_true, Bool.and_eq_true] at h ⊢
  exact fun x hx => (h x hx).1

@[simp] theorem NAddr.closed (a : NAddr) : a.pv.closed = true := closed_of_good a.good
@[simp] theorem NCidr.closed (a : NCidr) : a.pv.closed = true := closed_of_good a.good
@[simp] theorem NPoint.closed (a : NPoint) : a.pv.closed = true := closed_of_good a.good
@[simp] theorem NKey.closed (a : NKey) : a.pv.closed = true := closed_of_good a.good
@[simp] theorem NFront.closed (a : NFront) : a.pv.closed = true := closed_of_good a.good
@[simp] theorem NId.closed (a : NId) : a.pv.closed = true := closed_of_good a.good
@[simp] theorem NFilter.closed (a : NFilter) : a.pv.closed = true := closed_of_good a.good
@[simp] theorem NTable.closed (a : NTable) : a.pv.closed = true := closed_of_good a.good
@[simp] theorem NGroup.closed (a : NGroup) : a.pv.closed = true := closed_of_good a.good
@[simp] theorem NRows.closed (a : NRows) : a.pv.closed = true := closed_of_good a.good
@[simp] theorem NAddr.ok (a : NAddr) : okElem a.pv 17 = true := okElem_of_good a.good a.cs_length
@[simp] theorem NCidr.ok (a : NCidr) : okElem a.pv 18 = true := okElem_of_good a.good a.cs_length
@[simp] theorem NPoint.ok (a : NPoint) : okElem a.pv 18 = true := okElem_of_good a.good a.cs_length
@[simp] theorem NKey.ok (a : NKey) : okElem a.pv 2 = true := okElem_of_good a.good a.cs_length
@[simp] theorem NFront.ok (a : NFront) : okElem a.pv 26 = true := okElem_of_good a.good a.cs_length
@[simp] theorem NId.ok (a : NId) : okElem a.pv 5 = true := okElem_of_good a.good a.cs_length
@[simp] theorem NFilter.ok (a : NFilter) : okElem a.pv 3 = true := okElem_of_good a.good a.cs_length
@[simp] theorem NTable.ok (a : NTable) : okElem a.pv 3 = true := okElem_of_good a.good a.cs_length
@[simp] theorem NGroup.ok (a : NGroup) : okElem a.pv 8 = true := okElem_of_good a.good a.cs_length
@[simp] theorem NRows.ok (a : NRows) : okElem a.pv 3 = true := okElem_of_good a.good a.cs_length

/-- A part of a row of cells: what stands ahead, the part, what stands behind. -/
theorem loadE_mid {cs : List PV} {n o : Nat} (a b c : List PV) (h : cs = a ++ (b ++ c)) (ha : a.length = o) (hb : b.length = n) : loadE true n (.agg cs) o = some (.agg b) := by
  subst h
  have hle : o + n ≤ (PV.agg (a ++ (b ++ c))).cells.length := by simp [PV.cells]; omega
  simp only [loadE, if_true]
  rw [if_pos hle]
  simp only [PV.cells]
  congr 2
  rw [List.drop_append_of_le_length (by omega), List.drop_eq_nil_of_le (by omega : a.length ≤ o), List.nil_append, List.take_append_of_le_length (by omega), List.take_of_length_le (by omega)]
theorem loadE_whole {cs : List PV} {n : Nat} (h : cs.length = n) : loadE true n (.agg cs) 0 = some (.agg cs) := loadE_mid [] cs [] (by simp) rfl h
theorem loadE_one {cs : List PV} {o n : Nat} (a c : List PV) (x : PV) (h : cs = a ++ (x :: c)) (ha : a.length = o) : loadE false n (.agg cs) o = some x := by
  subst h; subst ha
  simp [loadE, PV.cells]

@[simp] theorem NAddr.ld (a : NAddr) : loadE true 17 a.pv 0 = some a.pv := loadE_whole a.cs_length
@[simp] theorem NAddr.ld_six (a : NAddr) (n : Nat) : loadE false n a.pv 0 = some (.bool a.six) := rfl
@[simp] theorem NAddr.ld_b (a : NAddr) : loadE true 16 a.pv 1 = some (.agg (pvB a.b)) := loadE_mid [.bool a.six] _ [] (by simp [NAddr.cs]) rfl (by simp)
@[simp] theorem NCidr.ld (a : NCidr) : loadE true 18 a.pv 0 = some a.pv := loadE_whole a.cs_length
@[simp] theorem NCidr.ld_addr (a : NCidr) : loadE true 17 a.pv 0 = some a.addr.pv := loadE_mid [] a.addr.cs _ rfl rfl a.addr.cs_length
@[simp] theorem NCidr.ld_six (a : NCidr) (n : Nat) : loadE false n a.pv 0 = some (.bool a.addr.six) := rfl
@[simp] theorem NCidr.ld_b (a : NCidr) : loadE true 16 a.pv 1 = some (.agg (pvB a.addr.b)) := loadE_mid [.bool a.addr.six] _ [.int .i64 a.bits] (by simp [NCidr.cs, NAddr.cs]) rfl (by simp)
@[simp] theorem NCidr.ld_bits (a : NCidr) (n : Nat) : loadE false n a.pv 17 = some (.int .i64 a.bits) := loadE_one a.addr.cs [] _ rfl a.addr.cs_length
@[simp] theorem NPoint.ld (a : NPoint) : loadE true 18 a.pv 0 = some a.pv := loadE_whole a.cs_length
@[simp] theorem NPoint.ld_addr (a : NPoint) : loadE true 17 a.pv 0 = some a.addr.pv := loadE_mid [] a.addr.cs _ rfl rfl a.addr.cs_length
@[simp] theorem NPoint.ld_six (a : NPoint) (n : Nat) : loadE false n a.pv 0 = some (.bool a.addr.six) := rfl
@[simp] theorem NPoint.ld_b (a : NPoint) : loadE true 16 a.pv 1 = some (.agg (pvB a.addr.b)) := loadE_mid [.bool a.addr.six] _ [.int .i64 a.port] (by simp [NPoint.cs, NAddr.cs]) rfl (by simp)
@[simp] theorem NPoint.ld_port (a : NPoint) (n : Nat) : loadE false n a.pv 17 = some (.int .i64 a.port) := loadE_one a.addr.cs [] _ rfl a.addr.cs_length
@[simp] theorem NKey.ld (a : NKey) : loadE true 2 a.pv 0 = some a.pv := loadE_whole a.cs_length
@[simp] theorem NKey.ld_space (a : NKey) (n : Nat) : loadE false n a.pv 0 = some (.str a.space) := rfl
@[simp] theorem NKey.ld_name (a : NKey) (n : Nat) : loadE false n a.pv 1 = some (.str a.name) := rfl
@[simp] theorem NFront.ld (a : NFront) : loadE true 26 a.pv 0 = some a.pv := loadE_whole a.cs_length
@[simp] theorem NFront.ld_proto (a : NFront) (n : Nat) : loadE false n a.pv 0 = some (.int .i64 a.proto) := rfl
@[simp] theorem NFront.ld_point (a : NFront) : loadE true 18 a.pv 1 = some a.point.pv := loadE_mid [.int .i64 a.proto] a.point.cs _ (by simp only [NFront.cs, List.append_assoc]; rfl) rfl a.point.cs_length
@[simp] theorem NFront.ld_addr (a : NFront) : loadE true 17 a.pv 1 = some a.point.addr.pv := loadE_mid [.int .i64 a.proto] a.point.addr.cs _ (by simp only [NFront.cs, NPoint.cs, List.append_assoc]; rfl) rfl a.point.addr.cs_length
@[simp] theorem NFront.ld_six (a : NFront) (n : Nat) : loadE false n a.pv 1 = some (.bool a.point.addr.six) := rfl
@[simp] theorem NFront.ld_port (a : NFront) (n : Nat) : loadE false n a.pv 18 = some (.int .i64 a.point.port) := loadE_one ([.int .i64 a.proto] ++ a.point.addr.cs) _ _ (by simp only [NFront.cs, NPoint.cs, List.append_assoc]; rfl) (by simp)
@[simp] theorem NFront.ld_service (a : NFront) : loadE true 2 a.pv 19 = some a.service.pv := loadE_mid ([.int .i64 a.proto] ++ a.point.cs) a.service.cs _ (by simp only [NFront.cs, List.append_assoc]; rfl) (by simp) rfl
@[simp] theorem NFront.ld_space (a : NFront) (n : Nat) : loadE false n a.pv 19 = some (.str a.service.space) := loadE_one ([.int .i64 a.proto] ++ a.point.cs) _ _ (by simp only [NFront.cs, NKey.cs, List.append_assoc]; rfl) (by simp)
@[simp] theorem NFront.ld_sname (a : NFront) (n : Nat) : loadE false n a.pv 20 = some (.str a.service.name) := loadE_one ([.int .i64 a.proto] ++ a.point.cs ++ [.str a.service.space]) _ _ (by simp only [NFront.cs, NKey.cs, List.append_assoc]; rfl) (by simp)
@[simp] theorem NFront.ld_name (a : NFront) (n : Nat) : loadE false n a.pv 21 = some (.str a.name) := loadE_one ([.int .i64 a.proto] ++ a.point.cs ++ a.service.cs) _ _ rfl (by simp)
@[simp] theorem NFront.ld_how (a : NFront) (n : Nat) : loadE false n a.pv 22 = some (.int .i64 a.how) := loadE_one ([.int .i64 a.proto] ++ a.point.cs ++ a.service.cs ++ [.str a.name]) _ _ (by simp only [NFront.cs, List.append_assoc]; rfl) (by simp)
@[simp] theorem NFront.ld_loc (a : NFront) (n : Nat) : loadE false n a.pv 23 = some (.bool a.loc) := loadE_one ([.int .i64 a.proto] ++ a.point.cs ++ a.service.cs ++ [.str a.name, .int .i64 a.how]) _ _ (by simp only [NFront.cs, List.append_assoc]; rfl) (by simp)
@[simp] theorem NFront.ld_asked (a : NFront) (n : Nat) : loadE false n a.pv 24 = some (.bool a.asked) := loadE_one ([.int .i64 a.proto] ++ a.point.cs ++ a.service.cs ++ [.str a.name, .int .i64 a.how, .bool a.loc]) _ _ (by simp only [NFront.cs, List.append_assoc]; rfl) (by simp)
@[simp] theorem NFront.ld_ticks (a : NFront) (n : Nat) : loadE false n a.pv 25 = some (.int .i64 a.ticks) := loadE_one ([.int .i64 a.proto] ++ a.point.cs ++ a.service.cs ++ [.str a.name, .int .i64 a.how, .bool a.loc, .bool a.asked]) _ _ (by simp only [NFront.cs, List.append_assoc]; rfl) (by simp)
@[simp] theorem NId.ld (a : NId) : loadE true 5 a.pv 0 = some a.pv := loadE_whole a.cs_length
@[simp] theorem NId.ld_service (a : NId) : loadE true 2 a.pv 0 = some a.service.pv := rfl
@[simp] theorem NId.ld_space (a : NId) (n : Nat) : loadE false n a.pv 0 = some (.str a.service.space) := rfl
@[simp] theorem NId.ld_sname (a : NId) (n : Nat) : loadE false n a.pv 1 = some (.str a.service.name) := rfl
@[simp] theorem NId.ld_name (a : NId) (n : Nat) : loadE false n a.pv 2 = some (.str a.name) := rfl
@[simp] theorem NId.ld_six (a : NId) (n : Nat) : loadE false n a.pv 3 = some (.bool a.six) := rfl
@[simp] theorem NId.ld_loc (a : NId) (n : Nat) : loadE false n a.pv 4 = some (.bool a.loc) := rfl
@[simp] theorem NFilter.ld (a : NFilter) : loadE true 3 a.pv 0 = some a.pv := rfl
@[simp] theorem NFilter.ld_service (a : NFilter) : loadE true 2 a.pv 0 = some a.service.pv := rfl
@[simp] theorem NFilter.ld_space (a : NFilter) (n : Nat) : loadE false n a.pv 0 = some (.str a.service.space) := rfl
@[simp] theorem NFilter.ld_sname (a : NFilter) (n : Nat) : loadE false n a.pv 1 = some (.str a.service.name) := rfl
@[simp] theorem NFilter.ld_ranges (a : NFilter) (n : Nat) : loadE false n a.pv 2 = some (.sl 18 (a.ranges.map NCidr.pv)) := rfl
@[simp] theorem NTable.ld (a : NTable) : loadE true 3 a.pv 0 = some a.pv := rfl
@[simp] theorem NTable.ld_size (a : NTable) (n : Nat) : loadE false n a.pv 0 = some (.int .i64 a.size) := rfl
@[simp] theorem NTable.ld_backends (a : NTable) (n : Nat) : loadE false n a.pv 1 = some (.sl 18 (a.backends.map NPoint.pv)) := rfl
@[simp] theorem NTable.ld_slots (a : NTable) (n : Nat) : loadE false n a.pv 2 = some (.sl 1 (a.slots.map (.int .i64))) := rfl
@[simp] theorem NGroup.ld (a : NGroup) : loadE true 8 a.pv 0 = some a.pv := rfl
@[simp] theorem NGroup.ld_id (a : NGroup) : loadE true 5 a.pv 0 = some a.id.pv := rfl
@[simp] theorem NGroup.ld_service (a : NGroup) : loadE true 2 a.pv 0 = some a.id.service.pv := rfl
@[simp] theorem NGroup.ld_space (a : NGroup) (n : Nat) : loadE false n a.pv 0 = some (.str a.id.service.space) := rfl
@[simp] theorem NGroup.ld_sname (a : NGroup) (n : Nat) : loadE false n a.pv 1 = some (.str a.id.service.name) := rfl
@[simp] theorem NGroup.ld_name (a : NGroup) (n : Nat) : loadE false n a.pv 2 = some (.str a.id.name) := rfl
@[simp] theorem NGroup.ld_six (a : NGroup) (n : Nat) : loadE false n a.pv 3 = some (.bool a.id.six) := rfl
@[simp] theorem NGroup.ld_loc (a : NGroup) (n : Nat) : loadE false n a.pv 4 = some (.bool a.id.loc) := rfl
@[simp] theorem NGroup.ld_table (a : NGroup) : loadE true 3 a.pv 5 = some a.table.pv := rfl
@[simp] theorem NGroup.ld_size (a : NGroup) (n : Nat) : loadE false n a.pv 5 = some (.int .i64 a.table.size) := rfl
@[simp] theorem NGroup.ld_backends (a : NGroup) (n : Nat) : loadE false n a.pv 6 = some (.sl 18 (a.table.backends.map NPoint.pv)) := rfl
@[simp] theorem NGroup.ld_slots (a : NGroup) (n : Nat) : loadE false n a.pv 7 = some (.sl 1 (a.table.slots.map (.int .i64))) := rfl
@[simp] theorem NRows.ld (a : NRows) : loadE true 3 a.pv 0 = some a.pv := rfl
@[simp] theorem NRows.ld_fronts (a : NRows) (n : Nat) : loadE false n a.pv 0 = some (.sl 26 (a.fronts.map NFront.pv)) := rfl
@[simp] theorem NRows.ld_groups (a : NRows) (n : Nat) : loadE false n a.pv 1 = some (.sl 8 (a.groups.map NGroup.pv)) := rfl
@[simp] theorem NRows.ld_filters (a : NRows) (n : Nat) : loadE false n a.pv 2 = some (.sl 3 (a.filters.map NFilter.pv)) := rfl

end Pv
