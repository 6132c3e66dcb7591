/- Part Pg of the proof: a machine with trees for values, its soundness, and walks on it. -/
import Derived.Test.YtfdhkijgolgnfaaDoorPd

section
set_option linter.unusedVariables false
set_option maxRecDepth 10000
namespace Go.Ideal.Tryd
@[go_sem] theorem lodgelaw17_GraphBytes_fnB : fnB pg 5 = true := by kernel_rfl

@[go_sem] theorem lodgeworld_Graph_fnB : fnB pg 22 = true := by kernel_rfl

@[go_sem] theorem lodgeref_Graph_fnB : fnB pg 23 = true := by kernel_rfl

@[go_sem] theorem lodgeref17_Bytes_fnB : fnB pg 25 = true := by kernel_rfl

@[go_sem] theorem lodgeref17_Uses_fnB : fnB pg 27 = true := by kernel_rfl

@[go_sem] theorem lodgeref_SameGraph_fnB : fnB pg 28 = true := by kernel_rfl

@[go_sem] theorem lodgeref_SameBytes_fnB : fnB pg 29 = true := by kernel_rfl

@[go_sem] theorem lodgeref_SameDesc_fnB : fnB pg 45 = true := by kernel_rfl

@[go_sem] theorem lodgeworld_Tensor_fnB : fnB pg 50 = true := by kernel_rfl

@[go_sem] theorem lodgeref_Nodes_fnB : fnB pg 51 = true := by kernel_rfl

@[go_sem] theorem lodgeref17_count_fnB : fnB pg 58 = true := by kernel_rfl

@[go_sem] theorem lodgeref17_wide_fnB : fnB pg 59 = true := by kernel_rfl

@[go_sem] theorem lodgeref3_Valid_fnB : fnB pg 60 = true := by kernel_rfl

@[go_sem] theorem lodgeref3_Bytes_fnB : fnB pg 61 = true := by kernel_rfl

@[go_sem] theorem lodgeref_SameNodes_fnB : fnB pg 63 = true := by kernel_rfl

@[go_sem] theorem lodgeworld_Desc_fnB : fnB pg 65 = true := by kernel_rfl

@[go_sem] theorem lodgeref3_ValidDesc_fnB : fnB pg 110 = true := by kernel_rfl

@[go_sem] theorem lodgeref3_Elems_fnB : fnB pg 111 = true := by kernel_rfl

@[go_sem] theorem lodgeref3_in_fnB : fnB pg 112 = true := by kernel_rfl

@[go_sem] theorem lodgeref3_DescBytes_fnB : fnB pg 113 = true := by kernel_rfl

@[go_sem] theorem lodgeref3_Raw_fnB : fnB pg 114 = true := by kernel_rfl

@[go_sem] theorem lodgeref_SameNode_fnB : fnB pg 116 = true := by kernel_rfl

@[go_sem] theorem lodgeref_SameTensor_fnB : fnB pg 119 = true := by kernel_rfl

@[go_sem] theorem lodgeref_Tensor_fnB : fnB pg 141 = true := by kernel_rfl

@[go_sem] theorem lodgeref_Desc_fnB : fnB pg 166 = true := by kernel_rfl

@[go_sem] theorem lodgeref_Node_fnB : fnB pg 100 = true := by kernel_rfl


end Go.Ideal.Tryd
end
