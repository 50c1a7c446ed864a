/- Part of the proof of BusProof. MADE BY PROGRAM (gentbl.py): the contracts of functions on numbers hold. -/
import Derived.Test.YtbegodiligmphaaGreatDoorQb06
namespace Go.Proofs.YtbegodiligmphaaGreatDoor.Sy
open Go
theorem tb0_ok : TbOk tb0 := fun _=>tbl_nil (C := mkCx tb0) rfl
theorem l254_check : l254.check (mkCx tb0) 20 400 254 3 = true := by decide +kernel
theorem tb1_ok : TbOk tb1 := tbS_ok tb0_ok l254_check
theorem l216_check : l216.check (mkCx tb1) 20 400 216 3 = true := by decide +kernel
theorem tb2_ok : TbOk tb2 := tbS_ok tb1_ok l216_check
theorem l219_check : l219.check (mkCx tb2) 20 400 219 3 = true := by decide +kernel
theorem tb3_ok : TbOk tb3 := tbS_ok tb2_ok l219_check
theorem l155_check : l155.check (mkCx tb3) 20 400 155 3 = true := by decide +kernel
theorem tb4_ok : TbOk tb4 := tbS_ok tb3_ok l155_check
theorem l212_check : l212.check (mkCx tb4) 20 400 212 3 = true := by decide +kernel
theorem tb5_ok : TbOk tb5 := tbS_ok tb4_ok l212_check
theorem l251_check : l251.check (mkCx tb5) 20 400 251 3 = true := by decide +kernel
theorem tb6_ok : TbOk tb6 := tbS_ok tb5_ok l251_check
theorem l153_check : l153.check (mkCx tb6) 20 400 153 3 = true := by decide +kernel
theorem tb7_ok : TbOk tb7 := tbS_ok tb6_ok l153_check
theorem l235_check : l235.check (mkCx tb7) 20 400 235 3 = true := by decide +kernel
theorem tb8_ok : TbOk tb8 := tbS_ok tb7_ok l235_check
theorem l142_check : l142.check (mkCx tb8) 20 400 142 3 = true := by decide +kernel
theorem tb9_ok : TbOk tb9 := tbS_ok tb8_ok l142_check
theorem l280_check : l280.check (mkCx tb9) 20 400 280 3 = true := by decide +kernel
theorem tb10_ok : TbOk tb10 := tbS_ok tb9_ok l280_check
theorem l255_check : l255.check (mkCx tb10) 20 400 255 3 = true := by decide +kernel
theorem tb11_ok : TbOk tb11 := tbS_ok tb10_ok l255_check
theorem l259_check : l259.check (mkCx tb11) 20 400 259 3 = true := by decide +kernel
theorem tb12_ok : TbOk tb12 := tbS_ok tb11_ok l259_check
theorem l281_check : l281.check (mkCx tb12) 20 400 281 3 = true := by decide +kernel
theorem tb13_ok : TbOk tb13 := tbS_ok tb12_ok l281_check
theorem l236_check : l236.check (mkCx tb13) 20 400 236 3 = true := by decide +kernel
theorem tb14_ok : TbOk tb14 := tbS_ok tb13_ok l236_check
theorem l231_check : l231.check (mkCx tb14) 20 400 231 3 = true := by decide +kernel
theorem tb15_ok : TbOk tb15 := tbS_ok tb14_ok l231_check
theorem l268_check : l268.check (mkCx tb15) 20 400 268 3 = true := by decide +kernel
theorem tb16_ok : TbOk tb16 := tbS_ok tb15_ok l268_check
theorem l275_check : l275.check (mkCx tb16) 20 400 275 3 = true := by decide +kernel
theorem tb17_ok : TbOk tb17 := tbS_ok tb16_ok l275_check
theorem l272_check : l272.check (mkCx tb17) 20 400 272 3 = true := by decide +kernel
theorem tb18_ok : TbOk tb18 := tbS_ok tb17_ok l272_check
theorem l274_check : l274.check (mkCx tb18) 20 400 274 3 = true := by decide +kernel
theorem tb19_ok : TbOk tb19 := tbS_ok tb18_ok l274_check
theorem l234_check : l234.check (mkCx tb19) 20 400 234 3 = true := by decide +kernel
theorem tb20_ok : TbOk tb20 := tbS_ok tb19_ok l234_check
theorem l201_check : l201.check (mkCx tb20) 20 400 201 3 = true := by decide +kernel
theorem tb21_ok : TbOk tb21 := tbS_ok tb20_ok l201_check
theorem l199_check : l199.check (mkCx tb21) 20 400 199 3 = true := by decide +kernel
theorem tb22_ok : TbOk tb22 := tbS_ok tb21_ok l199_check
theorem l200_check : l200.check (mkCx tb22) 20 400 200 3 = true := by decide +kernel
theorem tb23_ok : TbOk tb23 := tbS_ok tb22_ok l200_check
theorem l140_check : l140.check (mkCx tb23) 20 400 140 3 = true := by decide +kernel
theorem tb24_ok : TbOk tb24 := tbS_ok tb23_ok l140_check
theorem l144_check : l144.check (mkCx tb24) 20 400 144 3 = true := by decide +kernel
theorem tb25_ok : TbOk tb25 := tbS_ok tb24_ok l144_check
theorem l197_check : l197.check (mkCx tb25) 20 400 197 3 = true := by decide +kernel
theorem tb26_ok : TbOk tb26 := tbS_ok tb25_ok l197_check
theorem l198_check : l198.check (mkCx tb26) 20 400 198 3 = true := by decide +kernel
theorem tb27_ok : TbOk tb27 := tbS_ok tb26_ok l198_check
theorem l196_check : l196.check (mkCx tb27) 20 400 196 3 = true := by decide +kernel
theorem tb28_ok : TbOk tb28 := tbS_ok tb27_ok l196_check
theorem l138_check : l138.check (mkCx tb28) 20 400 138 3 = true := by decide +kernel
theorem tb29_ok : TbOk tb29 := tbS_ok tb28_ok l138_check
theorem l250_check : l250.check (mkCx tb29) 20 400 250 3 = true := by decide +kernel
theorem tb30_ok : TbOk tb30 := tbS_ok tb29_ok l250_check
theorem l252_check : l252.check (mkCx tb30) 20 400 252 3 = true := by decide +kernel
theorem tb31_ok : TbOk tb31 := tbS_ok tb30_ok l252_check
theorem l248_check : l248.check (mkCx tb31) 20 400 248 3 = true := by decide +kernel
theorem tb32_ok : TbOk tb32 := tbS_ok tb31_ok l248_check
theorem l261_check : l261.check (mkCx tb32) 20 400 261 3 = true := by decide +kernel
theorem tb33_ok : TbOk tb33 := tbS_ok tb32_ok l261_check
theorem l262_check : l262.check (mkCx tb33) 20 400 262 3 = true := by decide +kernel
theorem tb34_ok : TbOk tb34 := tbS_ok tb33_ok l262_check
theorem l217_check : l217.check (mkCx tb34) 20 400 217 3 = true := by decide +kernel
theorem tb35_ok : TbOk tb35 := tbS_ok tb34_ok l217_check
theorem l157_check : l157.check (mkCx tb35) 20 400 157 3 = true := by decide +kernel
theorem tb36_ok : TbOk tb36 := tbS_ok tb35_ok l157_check
theorem l158_check : l158.check (mkCx tb36) 20 400 158 3 = true := by decide +kernel
theorem tb37_ok : TbOk tb37 := tbS_ok tb36_ok l158_check
theorem l220_check : l220.check (mkCx tb37) 20 400 220 3 = true := by decide +kernel
theorem tb38_ok : TbOk tb38 := tbS_ok tb37_ok l220_check
theorem l156_check : l156.check (mkCx tb38) 20 400 156 3 = true := by decide +kernel
theorem tb39_ok : TbOk tb39 := tbS_ok tb38_ok l156_check
theorem l230_check : l230.check (mkCx tb39) 20 400 230 3 = true := by decide +kernel
theorem tb40_ok : TbOk tb40 := tbS_ok tb39_ok l230_check
theorem l229_check : l229.check (mkCx tb40) 20 400 229 3 = true := by decide +kernel
theorem tb41_ok : TbOk tb41 := tbS_ok tb40_ok l229_check
theorem l232_check : l232.check (mkCx tb41) 20 400 232 3 = true := by decide +kernel
theorem tb42_ok : TbOk tb42 := tbS_ok tb41_ok l232_check
theorem l24_check : l24.check (mkCx tb42) 20 400 24 3 = true := by decide +kernel
theorem tb43_ok : TbOk tb43 := tbS_ok tb42_ok l24_check
theorem l154_check : l154.check (mkCx tb43) 20 400 154 3 = true := by decide +kernel
theorem tb44_ok : TbOk tb44 := tbS_ok tb43_ok l154_check
theorem l207_check : l207.check (mkCx tb44) 20 400 207 3 = true := by decide +kernel
theorem tb45_ok : TbOk tb45 := tbS_ok tb44_ok l207_check
theorem l206_check : l206.check (mkCx tb45) 20 400 206 3 = true := by decide +kernel
theorem tb46_ok : TbOk tb46 := tbS_ok tb45_ok l206_check
theorem l97_check : l97.check (mkCx tb46) 20 400 97 3 = true := by decide +kernel
theorem tb47_ok : TbOk tb47 := tbS_ok tb46_ok l97_check
theorem tb48_ok : TbOk tb48 := fun O=>tbl_cons (tb47_ok O) (atanS_ok (C := mkCx tb47) rfl)
theorem l167_check : l167.check (mkCx tb48) 20 400 167 3 = true := by decide +kernel
theorem tb49_ok : TbOk tb49 := tbS_ok tb48_ok l167_check
theorem l205_check : l205.check (mkCx tb49) 20 400 205 3 = true := by decide +kernel
theorem tb50_ok : TbOk tb50 := tbS_ok tb49_ok l205_check
theorem l143_check : l143.check (mkCx tb50) 20 400 143 3 = true := by decide +kernel
theorem tb51_ok : TbOk tb51 := tbS_ok tb50_ok l143_check
theorem l237_check : l237.check (mkCx tb51) 20 400 237 3 = true := by decide +kernel
theorem tb52_ok : TbOk tb52 := tbS_ok tb51_ok l237_check
theorem l163_check : l163.check (mkCx tb52) 20 400 163 3 = true := by decide +kernel
theorem tb53_ok : TbOk tb53 := tbS_ok tb52_ok l163_check
theorem l23_check : l23.check (mkCx tb53) 20 400 23 3 = true := by decide +kernel
theorem tb54_ok : TbOk tb54 := tbS_ok tb53_ok l23_check
theorem l173_check : l173.check (mkCx tb54) 20 400 173 3 = true := by decide +kernel
theorem tb55_ok : TbOk tb55 := tbS_ok tb54_ok l173_check
theorem l202_check : l202.check (mkCx tb55) 20 400 202 3 = true := by decide +kernel
theorem tb56_ok : TbOk tb56 := tbS_ok tb55_ok l202_check
theorem l141_check : l141.check (mkCx tb56) 20 400 141 3 = true := by decide +kernel
theorem tb57_ok : TbOk tb57 := tbS_ok tb56_ok l141_check
theorem l146_check : l146.check (mkCx tb57) 20 400 146 3 = true := by decide +kernel
theorem tb58_ok : TbOk tb58 := tbS_ok tb57_ok l146_check
theorem l150_check : l150.check (mkCx tb58) 20 400 150 3 = true := by decide +kernel
theorem tb59_ok : TbOk tb59 := tbS_ok tb58_ok l150_check
theorem l145_check : l145.check (mkCx tb59) 20 400 145 3 = true := by decide +kernel
theorem tb60_ok : TbOk tb60 := tbS_ok tb59_ok l145_check
end Go.Proofs.YtbegodiligmphaaGreatDoor.Sy
