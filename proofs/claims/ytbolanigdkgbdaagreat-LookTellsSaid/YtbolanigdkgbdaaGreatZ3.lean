/- Part of the proof: lemmas for what the last file states; no condition. -/
import Derived.Test.YtbolanigdkgbdaaGreatZ2
import Derived.Test.YtbolanigdkgbdaaGreatProg
import Derived.Laws.Cover3
import Derived.MapKept
import Derived.DeepKeys3
import Derived.WideKeyRuns
import Derived.Laws.OwnMore
import Derived.Maps.RangeRun
import Derived.WideLaws
set_option linter.unusedSectionVars false
namespace Go.Proofs.YtbolanigdkgbdaaGreat
open Go Go.RowKit
instance iFO23_0 : FO Tryz.prog 23 0 0 := ⟨by kernel_rfl⟩
instance iFO23_1 : FO Tryz.prog 23 1 1 := ⟨by kernel_rfl⟩
instance iFO23_2 : FO Tryz.prog 23 2 2 := ⟨by kernel_rfl⟩
instance iFO23_3 : FO Tryz.prog 23 3 3 := ⟨by kernel_rfl⟩
instance iFO27_0 : FO Tryz.prog 27 0 0 := ⟨by kernel_rfl⟩
instance iFO27_1 : FO Tryz.prog 27 1 4 := ⟨by kernel_rfl⟩
instance iFO27_2 : FO Tryz.prog 27 2 5 := ⟨by kernel_rfl⟩
instance iFO27_3 : FO Tryz.prog 27 3 6 := ⟨by kernel_rfl⟩
instance iFO43_0 : FO Tryz.prog 43 0 0 := ⟨by kernel_rfl⟩
instance iFO43_1 : FO Tryz.prog 43 1 1 := ⟨by kernel_rfl⟩
instance iFO43_2 : FO Tryz.prog 43 2 2 := ⟨by kernel_rfl⟩
instance iFO57_0 : FO Tryz.prog 57 0 0 := ⟨by kernel_rfl⟩
instance iFO57_1 : FO Tryz.prog 57 1 1 := ⟨by kernel_rfl⟩
instance iFO57_2 : FO Tryz.prog 57 2 2 := ⟨by kernel_rfl⟩
instance iFO57_3 : FO Tryz.prog 57 3 3 := ⟨by kernel_rfl⟩
instance iFO57_4 : FO Tryz.prog 57 4 4 := ⟨by kernel_rfl⟩
instance iFO59_0 : FO Tryz.prog 59 0 0 := ⟨by kernel_rfl⟩
instance iFO59_1 : FO Tryz.prog 59 1 1 := ⟨by kernel_rfl⟩
instance iFO59_2 : FO Tryz.prog 59 2 2 := ⟨by kernel_rfl⟩
instance iFO63_0 : FO Tryz.prog 63 0 0 := ⟨by kernel_rfl⟩
instance iFO63_1 : FO Tryz.prog 63 1 4 := ⟨by kernel_rfl⟩
instance iFO63_2 : FO Tryz.prog 63 2 5 := ⟨by kernel_rfl⟩
instance iFO63_3 : FO Tryz.prog 63 3 6 := ⟨by kernel_rfl⟩
instance iFO63_4 : FO Tryz.prog 63 4 7 := ⟨by kernel_rfl⟩
instance iFO63_5 : FO Tryz.prog 63 5 8 := ⟨by kernel_rfl⟩
instance iFO63_6 : FO Tryz.prog 63 6 9 := ⟨by kernel_rfl⟩
instance iFO63_7 : FO Tryz.prog 63 7 10 := ⟨by kernel_rfl⟩
instance iFO63_8 : FO Tryz.prog 63 8 11 := ⟨by kernel_rfl⟩
instance iFO63_9 : FO Tryz.prog 63 9 12 := ⟨by kernel_rfl⟩
instance iFO63_10 : FO Tryz.prog 63 10 13 := ⟨by kernel_rfl⟩
instance iFO63_11 : FO Tryz.prog 63 11 14 := ⟨by kernel_rfl⟩
instance iFO85_0 : FO Tryz.prog 85 0 0 := ⟨by kernel_rfl⟩
instance iFO85_1 : FO Tryz.prog 85 1 7 := ⟨by kernel_rfl⟩
instance iFO85_2 : FO Tryz.prog 85 2 8 := ⟨by kernel_rfl⟩
instance iFO85_3 : FO Tryz.prog 85 3 9 := ⟨by kernel_rfl⟩
instance iFO85_4 : FO Tryz.prog 85 4 10 := ⟨by kernel_rfl⟩
instance iFO85_5 : FO Tryz.prog 85 5 11 := ⟨by kernel_rfl⟩
instance iFO85_6 : FO Tryz.prog 85 6 12 := ⟨by kernel_rfl⟩
instance iFO90_0 : FO Tryz.prog 90 0 0 := ⟨by kernel_rfl⟩
instance iFO90_1 : FO Tryz.prog 90 1 4 := ⟨by kernel_rfl⟩
instance iFO90_2 : FO Tryz.prog 90 2 5 := ⟨by kernel_rfl⟩
instance iFO90_3 : FO Tryz.prog 90 3 6 := ⟨by kernel_rfl⟩
instance iFO90_4 : FO Tryz.prog 90 4 7 := ⟨by kernel_rfl⟩
instance iFO90_5 : FO Tryz.prog 90 5 8 := ⟨by kernel_rfl⟩
instance iFO90_6 : FO Tryz.prog 90 6 9 := ⟨by kernel_rfl⟩
instance iFO90_7 : FO Tryz.prog 90 7 10 := ⟨by kernel_rfl⟩
instance iFO90_8 : FO Tryz.prog 90 8 11 := ⟨by kernel_rfl⟩
instance iFO90_9 : FO Tryz.prog 90 9 12 := ⟨by kernel_rfl⟩
instance iFO90_10 : FO Tryz.prog 90 10 13 := ⟨by kernel_rfl⟩
instance iFO90_11 : FO Tryz.prog 90 11 14 := ⟨by kernel_rfl⟩
instance iFO95_0 : FO Tryz.prog 95 0 0 := ⟨by kernel_rfl⟩
instance iFO95_1 : FO Tryz.prog 95 1 1 := ⟨by kernel_rfl⟩
instance iFO95_2 : FO Tryz.prog 95 2 6 := ⟨by kernel_rfl⟩
instance iFO104_0 : FO Tryz.prog 104 0 0 := ⟨by kernel_rfl⟩
instance iFO104_1 : FO Tryz.prog 104 1 1 := ⟨by kernel_rfl⟩
instance iFO110_0 : FO Tryz.prog 110 0 0 := ⟨by kernel_rfl⟩
instance iFO110_1 : FO Tryz.prog 110 1 1 := ⟨by kernel_rfl⟩
instance iFO110_2 : FO Tryz.prog 110 2 2 := ⟨by kernel_rfl⟩
instance iFO110_3 : FO Tryz.prog 110 3 3 := ⟨by kernel_rfl⟩
instance iFO116_0 : FO Tryz.prog 116 0 0 := ⟨by kernel_rfl⟩
instance iFO116_1 : FO Tryz.prog 116 1 1 := ⟨by kernel_rfl⟩
instance iFO116_2 : FO Tryz.prog 116 2 2 := ⟨by kernel_rfl⟩
instance iFO116_3 : FO Tryz.prog 116 3 3 := ⟨by kernel_rfl⟩
instance iFO116_4 : FO Tryz.prog 116 4 4 := ⟨by kernel_rfl⟩
instance iFO116_5 : FO Tryz.prog 116 5 5 := ⟨by kernel_rfl⟩
instance iFO134_5 : FO Tryz.prog 134 5 5 := ⟨by kernel_rfl⟩
instance iFO136_0 : FO Tryz.prog 136 0 0 := ⟨by kernel_rfl⟩
instance iFO136_4 : FO Tryz.prog 136 4 7 := ⟨by kernel_rfl⟩
instance iFO136_5 : FO Tryz.prog 136 5 8 := ⟨by kernel_rfl⟩
instance iFO136_6 : FO Tryz.prog 136 6 9 := ⟨by kernel_rfl⟩
instance iFO136_7 : FO Tryz.prog 136 7 10 := ⟨by kernel_rfl⟩
instance iFO136_8 : FO Tryz.prog 136 8 11 := ⟨by kernel_rfl⟩
instance iFO136_9 : FO Tryz.prog 136 9 12 := ⟨by kernel_rfl⟩
instance iFO145_0 : FO Tryz.prog 145 0 0 := ⟨by kernel_rfl⟩
instance iFO145_1 : FO Tryz.prog 145 1 4 := ⟨by kernel_rfl⟩
instance iFO145_2 : FO Tryz.prog 145 2 5 := ⟨by kernel_rfl⟩
instance iFO145_3 : FO Tryz.prog 145 3 6 := ⟨by kernel_rfl⟩
instance iFO145_4 : FO Tryz.prog 145 4 7 := ⟨by kernel_rfl⟩
instance iFO145_5 : FO Tryz.prog 145 5 8 := ⟨by kernel_rfl⟩
instance iFO145_6 : FO Tryz.prog 145 6 9 := ⟨by kernel_rfl⟩
instance iFO145_7 : FO Tryz.prog 145 7 10 := ⟨by kernel_rfl⟩
instance iFO145_8 : FO Tryz.prog 145 8 11 := ⟨by kernel_rfl⟩
instance iFO145_9 : FO Tryz.prog 145 9 12 := ⟨by kernel_rfl⟩
instance iFO145_10 : FO Tryz.prog 145 10 13 := ⟨by kernel_rfl⟩
instance iFO156_0 : FO Tryz.prog 156 0 0 := ⟨by kernel_rfl⟩
instance iFO156_1 : FO Tryz.prog 156 1 1 := ⟨by kernel_rfl⟩
instance iFO156_2 : FO Tryz.prog 156 2 5 := ⟨by kernel_rfl⟩
instance iFO156_3 : FO Tryz.prog 156 3 6 := ⟨by kernel_rfl⟩
instance iFO156_4 : FO Tryz.prog 156 4 7 := ⟨by kernel_rfl⟩
instance iFO160_0 : FO Tryz.prog 160 0 0 := ⟨by kernel_rfl⟩
instance iFO160_1 : FO Tryz.prog 160 1 4 := ⟨by kernel_rfl⟩
instance iFO160_2 : FO Tryz.prog 160 2 5 := ⟨by kernel_rfl⟩
instance iFO160_3 : FO Tryz.prog 160 3 6 := ⟨by kernel_rfl⟩
instance iFO160_4 : FO Tryz.prog 160 4 7 := ⟨by kernel_rfl⟩
instance iFO160_5 : FO Tryz.prog 160 5 8 := ⟨by kernel_rfl⟩
instance iFO160_6 : FO Tryz.prog 160 6 9 := ⟨by kernel_rfl⟩
instance iFO160_7 : FO Tryz.prog 160 7 10 := ⟨by kernel_rfl⟩
instance iFO160_8 : FO Tryz.prog 160 8 11 := ⟨by kernel_rfl⟩
instance iFO160_9 : FO Tryz.prog 160 9 12 := ⟨by kernel_rfl⟩
instance iFO160_10 : FO Tryz.prog 160 10 13 := ⟨by kernel_rfl⟩
instance iFO160_11 : FO Tryz.prog 160 11 14 := ⟨by kernel_rfl⟩
instance iFO163_0 : FO Tryz.prog 163 0 0 := ⟨by kernel_rfl⟩
instance iFO163_1 : FO Tryz.prog 163 1 4 := ⟨by kernel_rfl⟩
instance iFO163_2 : FO Tryz.prog 163 2 5 := ⟨by kernel_rfl⟩
instance iFO163_3 : FO Tryz.prog 163 3 6 := ⟨by kernel_rfl⟩
instance iFO165_0 : FO Tryz.prog 165 0 0 := ⟨by kernel_rfl⟩
instance iFO165_1 : FO Tryz.prog 165 1 4 := ⟨by kernel_rfl⟩
instance iFO165_2 : FO Tryz.prog 165 2 5 := ⟨by kernel_rfl⟩
instance iFO165_3 : FO Tryz.prog 165 3 6 := ⟨by kernel_rfl⟩
instance iFO165_4 : FO Tryz.prog 165 4 7 := ⟨by kernel_rfl⟩
instance iFO165_5 : FO Tryz.prog 165 5 8 := ⟨by kernel_rfl⟩
instance iFO165_6 : FO Tryz.prog 165 6 9 := ⟨by kernel_rfl⟩
instance iFO165_7 : FO Tryz.prog 165 7 10 := ⟨by kernel_rfl⟩
instance iFO169_0 : FO Tryz.prog 169 0 0 := ⟨by kernel_rfl⟩
instance iFO169_1 : FO Tryz.prog 169 1 4 := ⟨by kernel_rfl⟩
instance iFO169_2 : FO Tryz.prog 169 2 5 := ⟨by kernel_rfl⟩
instance iFO169_3 : FO Tryz.prog 169 3 6 := ⟨by kernel_rfl⟩
instance iFO169_4 : FO Tryz.prog 169 4 7 := ⟨by kernel_rfl⟩
instance iFO169_5 : FO Tryz.prog 169 5 8 := ⟨by kernel_rfl⟩
instance iFO169_6 : FO Tryz.prog 169 6 9 := ⟨by kernel_rfl⟩
instance iFO172_0 : FO Tryz.prog 172 0 0 := ⟨by kernel_rfl⟩
instance iFO172_1 : FO Tryz.prog 172 1 4 := ⟨by kernel_rfl⟩
instance iFO172_2 : FO Tryz.prog 172 2 5 := ⟨by kernel_rfl⟩
instance iFO172_3 : FO Tryz.prog 172 3 6 := ⟨by kernel_rfl⟩
instance iFO172_4 : FO Tryz.prog 172 4 7 := ⟨by kernel_rfl⟩
instance iFO172_5 : FO Tryz.prog 172 5 8 := ⟨by kernel_rfl⟩
instance iFO172_6 : FO Tryz.prog 172 6 9 := ⟨by kernel_rfl⟩
instance iFO194_1 : FO Tryz.prog 194 1 1 := ⟨by kernel_rfl⟩
instance iFO194_2 : FO Tryz.prog 194 2 2 := ⟨by kernel_rfl⟩
instance iFO194_3 : FO Tryz.prog 194 3 3 := ⟨by kernel_rfl⟩
instance iFO194_4 : FO Tryz.prog 194 4 4 := ⟨by kernel_rfl⟩
instance iFO194_6 : FO Tryz.prog 194 6 6 := ⟨by kernel_rfl⟩
instance iFO194_7 : FO Tryz.prog 194 7 7 := ⟨by kernel_rfl⟩
instance iFO194_8 : FO Tryz.prog 194 8 8 := ⟨by kernel_rfl⟩
instance iFO196_1 : FO Tryz.prog 196 1 4 := ⟨by kernel_rfl⟩
instance iFO196_2 : FO Tryz.prog 196 2 5 := ⟨by kernel_rfl⟩
instance iFO196_3 : FO Tryz.prog 196 3 6 := ⟨by kernel_rfl⟩
instance iFO196_4 : FO Tryz.prog 196 4 7 := ⟨by kernel_rfl⟩
instance iFO196_5 : FO Tryz.prog 196 5 8 := ⟨by kernel_rfl⟩
instance iFO196_6 : FO Tryz.prog 196 6 9 := ⟨by kernel_rfl⟩
instance iFO196_7 : FO Tryz.prog 196 7 10 := ⟨by kernel_rfl⟩
instance iFO196_8 : FO Tryz.prog 196 8 11 := ⟨by kernel_rfl⟩
instance iFO196_9 : FO Tryz.prog 196 9 12 := ⟨by kernel_rfl⟩
instance iFO196_10 : FO Tryz.prog 196 10 13 := ⟨by kernel_rfl⟩
instance iFO205_0 : FO Tryz.prog 205 0 0 := ⟨by kernel_rfl⟩
instance iFO205_1 : FO Tryz.prog 205 1 4 := ⟨by kernel_rfl⟩
instance iFO205_2 : FO Tryz.prog 205 2 5 := ⟨by kernel_rfl⟩
instance iFO205_3 : FO Tryz.prog 205 3 6 := ⟨by kernel_rfl⟩
instance iFO205_4 : FO Tryz.prog 205 4 7 := ⟨by kernel_rfl⟩
instance iFO205_5 : FO Tryz.prog 205 5 8 := ⟨by kernel_rfl⟩
instance iFO205_6 : FO Tryz.prog 205 6 9 := ⟨by kernel_rfl⟩
instance iFO205_7 : FO Tryz.prog 205 7 10 := ⟨by kernel_rfl⟩
instance iFO205_8 : FO Tryz.prog 205 8 11 := ⟨by kernel_rfl⟩
instance iFO205_9 : FO Tryz.prog 205 9 12 := ⟨by kernel_rfl⟩
instance iFO205_10 : FO Tryz.prog 205 10 15 := ⟨by kernel_rfl⟩
instance iFO205_11 : FO Tryz.prog 205 11 16 := ⟨by kernel_rfl⟩
instance iFO205_12 : FO Tryz.prog 205 12 17 := ⟨by kernel_rfl⟩
instance iFO205_13 : FO Tryz.prog 205 13 18 := ⟨by kernel_rfl⟩
instance iFO205_14 : FO Tryz.prog 205 14 19 := ⟨by kernel_rfl⟩
instance iFO215_0 : FO Tryz.prog 215 0 0 := ⟨by kernel_rfl⟩
instance iFO215_1 : FO Tryz.prog 215 1 4 := ⟨by kernel_rfl⟩
instance iFO215_2 : FO Tryz.prog 215 2 5 := ⟨by kernel_rfl⟩
instance iFO215_3 : FO Tryz.prog 215 3 6 := ⟨by kernel_rfl⟩
instance iFO215_4 : FO Tryz.prog 215 4 7 := ⟨by kernel_rfl⟩
instance iFO215_5 : FO Tryz.prog 215 5 8 := ⟨by kernel_rfl⟩
instance iFO224_0 : FO Tryz.prog 224 0 0 := ⟨by kernel_rfl⟩
instance iFO224_1 : FO Tryz.prog 224 1 1 := ⟨by kernel_rfl⟩
instance iFO226_0 : FO Tryz.prog 226 0 0 := ⟨by kernel_rfl⟩
instance iFO226_1 : FO Tryz.prog 226 1 4 := ⟨by kernel_rfl⟩
instance iFO226_2 : FO Tryz.prog 226 2 5 := ⟨by kernel_rfl⟩
instance iFO226_3 : FO Tryz.prog 226 3 6 := ⟨by kernel_rfl⟩
instance iFO226_4 : FO Tryz.prog 226 4 7 := ⟨by kernel_rfl⟩
instance iFO226_5 : FO Tryz.prog 226 5 8 := ⟨by kernel_rfl⟩
instance iFO226_6 : FO Tryz.prog 226 6 9 := ⟨by kernel_rfl⟩
instance iFO226_7 : FO Tryz.prog 226 7 10 := ⟨by kernel_rfl⟩
instance iFO226_8 : FO Tryz.prog 226 8 11 := ⟨by kernel_rfl⟩
instance iFO226_9 : FO Tryz.prog 226 9 12 := ⟨by kernel_rfl⟩
instance iFO231_0 : FO Tryz.prog 231 0 0 := ⟨by kernel_rfl⟩
instance iFO231_1 : FO Tryz.prog 231 1 4 := ⟨by kernel_rfl⟩
instance iFO231_2 : FO Tryz.prog 231 2 5 := ⟨by kernel_rfl⟩
instance iFO231_3 : FO Tryz.prog 231 3 6 := ⟨by kernel_rfl⟩
instance iFO231_4 : FO Tryz.prog 231 4 7 := ⟨by kernel_rfl⟩
instance iFO231_5 : FO Tryz.prog 231 5 8 := ⟨by kernel_rfl⟩
instance iFO237_0 : FO Tryz.prog 237 0 0 := ⟨by kernel_rfl⟩
instance iFO237_1 : FO Tryz.prog 237 1 1 := ⟨by kernel_rfl⟩
instance iFO237_2 : FO Tryz.prog 237 2 2 := ⟨by kernel_rfl⟩
instance iFO237_3 : FO Tryz.prog 237 3 3 := ⟨by kernel_rfl⟩
instance iFO237_8 : FO Tryz.prog 237 8 8 := ⟨by kernel_rfl⟩
instance iFO239_0 : FO Tryz.prog 239 0 0 := ⟨by kernel_rfl⟩
instance iFO239_1 : FO Tryz.prog 239 1 1 := ⟨by kernel_rfl⟩
instance iFO239_2 : FO Tryz.prog 239 2 2 := ⟨by kernel_rfl⟩
instance iSZ3 : SZ Tryz.prog 3 1 := ⟨by kernel_rfl⟩
instance iSZ40 : SZ Tryz.prog 40 1 := ⟨by kernel_rfl⟩
instance iSZ43 : SZ Tryz.prog 43 3 := ⟨by kernel_rfl⟩
instance iSZ75 : SZ Tryz.prog 75 1 := ⟨by kernel_rfl⟩
instance iSZ104 : SZ Tryz.prog 104 2 := ⟨by kernel_rfl⟩
instance iSZ116 : SZ Tryz.prog 116 6 := ⟨by kernel_rfl⟩
instance iSZ136 : SZ Tryz.prog 136 18 := ⟨by kernel_rfl⟩
instance iSZ224 : SZ Tryz.prog 224 2 := ⟨by kernel_rfl⟩
instance iSZ237 : SZ Tryz.prog 237 9 := ⟨by kernel_rfl⟩
instance iUL3 : UL Tryz.prog 3 := UL.mk' Tryz.underlying3 rfl
instance iUL4 : UL Tryz.prog 4 := UL.mk' Tryz.underlying4 rfl
instance iUA23 : UA Tryz.prog 23 4 := UA.mk' Tryz.underlying23 rfl (by kernel_rfl)
instance iUS24 : US Tryz.prog 24 75 := ⟨Tryz.underlying24⟩
instance iUL24 : UL Tryz.prog 24 := UL.mk' Tryz.underlying24 rfl
instance iUS25 : US Tryz.prog 25 3 := ⟨Tryz.underlying25⟩
instance iUL25 : UL Tryz.prog 25 := UL.mk' Tryz.underlying25 rfl
instance iUA27 : UA Tryz.prog 27 7 := UA.mk' Tryz.underlying27 rfl (by kernel_rfl)
instance iUL30 : UL Tryz.prog 30 := UL.mk' Tryz.underlying30 rfl
instance iUS40 : US Tryz.prog 40 43 := ⟨Tryz.underlying40⟩
instance iUL40 : UL Tryz.prog 40 := UL.mk' Tryz.underlying40 rfl
instance iUA43 : UA Tryz.prog 43 3 := UA.mk' Tryz.underlying43 rfl (by kernel_rfl)
instance iUS51 : US Tryz.prog 51 104 := ⟨Tryz.underlying51⟩
instance iUL52 : UL Tryz.prog 52 := UL.mk' Tryz.underlying52 rfl
instance iUA57 : UA Tryz.prog 57 5 := UA.mk' Tryz.underlying57 rfl (by kernel_rfl)
instance iUS82 : US Tryz.prog 82 116 := ⟨Tryz.underlying82⟩
instance iUL82 : UL Tryz.prog 82 := UL.mk' Tryz.underlying82 rfl
instance iUS83 : US Tryz.prog 83 136 := ⟨Tryz.underlying83⟩
instance iUL83 : UL Tryz.prog 83 := UL.mk' Tryz.underlying83 rfl
instance iUL88 : UL Tryz.prog 88 := UL.mk' Tryz.underlying88 rfl
instance iUA93 : UA Tryz.prog 93 5 := UA.mk' Tryz.underlying93 rfl (by kernel_rfl)
instance iUL112 : UL Tryz.prog 112 := UL.mk' Tryz.underlying112 rfl
instance iUL113 : UL Tryz.prog 113 := UL.mk' Tryz.underlying113 rfl
instance iUL114 : UL Tryz.prog 114 := UL.mk' Tryz.underlying114 rfl
instance iUL132 : UL Tryz.prog 132 := UL.mk' Tryz.underlying132 rfl
instance iUL141 : UL Tryz.prog 141 := UL.mk' Tryz.underlying141 rfl
instance iUL142 : UL Tryz.prog 142 := UL.mk' Tryz.underlying142 rfl
instance iUL143 : UL Tryz.prog 143 := UL.mk' Tryz.underlying143 rfl
instance iUL157 : UL Tryz.prog 157 := UL.mk' Tryz.underlying157 rfl
instance iUS161 : US Tryz.prog 161 187 := ⟨Tryz.underlying161⟩
instance iUL161 : UL Tryz.prog 161 := UL.mk' Tryz.underlying161 rfl
instance iUL188 : UL Tryz.prog 188 := UL.mk' Tryz.underlying188 rfl
instance iUL189 : UL Tryz.prog 189 := UL.mk' Tryz.underlying189 rfl
instance iUL190 : UL Tryz.prog 190 := UL.mk' Tryz.underlying190 rfl
instance iUL191 : UL Tryz.prog 191 := UL.mk' Tryz.underlying191 rfl
instance iUL192 : UL Tryz.prog 192 := UL.mk' Tryz.underlying192 rfl
instance iUS202 : US Tryz.prog 202 40 := ⟨Tryz.underlying202⟩
instance iUL202 : UL Tryz.prog 202 := UL.mk' Tryz.underlying202 rfl
instance iUS203 : US Tryz.prog 203 224 := ⟨Tryz.underlying203⟩
instance iUL203 : UL Tryz.prog 203 := UL.mk' Tryz.underlying203 rfl
instance iUS221 : US Tryz.prog 221 237 := ⟨Tryz.underlying221⟩
instance iUL235 : UL Tryz.prog 235 := UL.mk' Tryz.underlying235 rfl
end Go.Proofs.YtbolanigdkgbdaaGreat
namespace Go.Proofs.YtbolanigdkgbdaaGreat
open Go Go.RowKit
set_option linter.unusedSectionVars false
variable [Df]
section
variable {P : Program} {ops : Array Oper} {Q : Exit → Act → World → Prop} {md : Region.Mode} {D : Nat → World → Prop}
def wpAnyG (P : Program) (md : Region.Mode) (ops : Array Oper) (Q : Exit → Act → World → Prop) (D : Nat → World → Prop) : Nat → Array Bool → Act → World → Prop
  | 0, listed, a, w => Region.ready md ops listed = [] ∧ Q .normal a w
  | fuel + 1, listed, a, w =>
    (Region.ready md ops listed = [] → Q .normal a w) ∧
    ∀ i ∈ Region.ready md ops listed, wpOp P ops Q i (fun a' w' => (w' = w ∨ D i w') ∧ wpAnyG P md ops Q D fuel (listed.setIfInBounds i true) a' w') a w
theorem wpAny_of_G : ∀ (fuel : Nat) (listed : Array Bool) (a : Act) (w : World), wpAnyG P md ops Q D fuel listed a w → wpAny P md ops Q fuel listed a w
  | 0, _, _, _, h => h
  | fuel + 1, _, _, _, h => ⟨h.1, fun i hi => wpOp_mono (fun a' w' h' => wpAny_of_G fuel _ a' w' h'.2) (h.2 i hi)⟩
theorem wpAnyG_first {i : Nat} {oi : Oper} {v : Value} {C : World → Prop} (hi : ops[i]? = some oi) (hsel : ∀ (j : Nat) (o : Oper) cs b, ops[j]? = some o → o.op ≠ .select cs b)
    (hQ : ∀ c a w, Q (.panic c) (a.put oi.dst v) w → Q (.panic c) a w) :
    ∀ (fuel : Nat) (listed : Array Bool) (a : Act) (w : World),
      (∀ j oj, ops[j]? = some oj → j ≠ i → listed.getD j true = false → (∀ e ∈ oj.after, Region.binds md e = true → e.on ≠ i) → oi.apart ops oj = true ∧ ∀ w, D j w → C w) →
      i ∈ Region.ready md ops listed → YieldsIf P ops C oi v a → C w →
      wpAnyG P md ops Q D fuel (listed.setIfInBounds i true) (a.put oi.dst v) w → wpAnyG P md ops Q D (fuel + 1) listed a w := by
  intro fuel
  induction fuel with
  | zero =>
    intro listed a w _ hr hy hS H
    refine ⟨fun h => (by rw [h] at hr; cases hr), fun j hj => ?_⟩
    by_cases hji : j = i
    · subst hji; exact hy.wpOp hi hS ⟨.inl rfl, H⟩
    · have := ready_mono hj hji
      rw [H.1] at this
      cases this
  | succ fuel ih =>
    intro listed a w hfree hr hy hS H
    refine ⟨fun h => (by rw [h] at hr; cases hr), fun j hj => ?_⟩
    by_cases hji : j = i
    · subst hji; exact hy.wpOp hi hS ⟨.inl rfl, H⟩
    · have h1 := H.2 j (ready_mono hj hji)
      obtain ⟨hjun, oj, hoj, hall⟩ := mem_ready.1 hj
      have hnot : ∀ e ∈ oj.after, Region.binds md e = true → e.on ≠ i := fun e he hb heq => by
        have h1 := hall e he hb
        have h0 := (mem_ready.1 hr).1
        rw [heq] at h1
        rcases Nat.lt_or_ge i listed.size with h' | h'
        · simp [h'] at h0 h1; rw [h0] at h1; cases h1
        · simp [Array.getElem?_eq_none h'] at h1
      obtain ⟨hap, hDj⟩ := hfree j oj hoj hji hjun hnot
      have h2 := wpOp_putIf hoj hap (fun cs b => hsel i oi cs b hi) (fun cs b => hsel j oj cs b hoj) hQ hy h1
      have hfree' : ∀ k ok, ops[k]? = some ok → k ≠ i → (listed.setIfInBounds j true).getD k true = false →
          (∀ e ∈ ok.after, Region.binds md e = true → e.on ≠ i) → oi.apart ops ok = true ∧ ∀ w, D k w → C w := fun k ok hk hki hun hno => by
        refine hfree k ok hk hki ?_ hno
        by_cases hjk : j = k
        · subst hjk; exact hjun
        · rw [getD_set_ne true hjk] at hun; exact hun
      refine wpOp_mono (fun a' w' h3 => ⟨h3.2.1, ih (listed.setIfInBounds j true) a' w' hfree' (ready_mono hr (Ne.symm hji)) h3.1 (h3.2.1.elim (fun e => e ▸ hS) (hDj _)) ?_⟩) h2
      rw [Array.setIfInBounds_comm _ _ hji]
      exact h3.2.2
def waitsB (md : Region.Mode) (ops : Array Oper) (late : List Nat) (listed : Array Bool) (i : Nat) : Bool :=
  late.all fun j => listed.getD j true || match ops[j]? with
    | some oj => oj.after.any (fun e => Region.binds md e && e.on == i)
    | none => true
def lateD (late : List Nat) (C1 C2 : World → Prop) (j : Nat) (w : World) : Prop := if late.contains j then C2 w else C1 w
def schTo1 (md : Region.Mode) (ops : Array Oper) (late : List Nat) : List (Bool × Nat) → Array Bool → Option (Array Bool)
  | [], listed => some listed
  | (true, i) :: r, listed => if (Region.ready md ops listed).contains i && Region.free md ops listed i && waitsB md ops late listed i then schTo1 md ops late r (listed.setIfInBounds i true) else none
  | (false, i) :: r, listed => if Region.ready md ops listed == [i] && !late.contains i then schTo1 md ops late r (listed.setIfInBounds i true) else none
def schTo2 (md : Region.Mode) (ops : Array Oper) (late : List Nat) : List (Bool × Nat) → Array Bool → Option (Array Bool)
  | [], listed => some listed
  | (true, i) :: r, listed => if (Region.ready md ops listed).contains i && Region.free md ops listed i then schTo2 md ops late r (listed.setIfInBounds i true) else none
  | (false, i) :: r, listed => if Region.ready md ops listed == [i] && late.contains i then schTo2 md ops late r (listed.setIfInBounds i true) else none
theorem wpSch_to2 {C1 C2 : World → Prop} {K : Act → World → Prop} {late : List Nat} (h12 : ∀ w, C1 w → C2 w) (hs : Region.noSelect ops = true) : ∀ (steps : List (Bool × Nat)) (listed listed' : Array Bool) (a : Act) (w : World), C2 w → schTo2 md ops late steps listed = some listed' → Region.ready md ops listed' = [] →
    wpSch P ops C2 K steps a w → wpAnyG P md ops (NoQ K) (lateD late C1 C2) steps.length listed a w
  | [], listed, listed', a, w, hC, hk, hend, h => by
    injection hk with hk; subst hk
    exact ⟨hend, h⟩
  | (true, i) :: r, listed, listed', a, w, hC, hk, hend, h => by
    simp only [schTo2] at hk
    split at hk
    · rename_i hc
      simp only [Bool.and_eq_true] at hc
      obtain ⟨o, v, ho, hy, hC, h⟩ := h
      refine wpAnyG_first (C := C2) ho (Region.noSelect_spec hs) (fun _ _ _ h => h.elim) _ listed a w (fun j oj hj hji hun hno => ⟨Region.free_spec ho hc.2 j oj hj hji hun hno, fun w hw => ?_⟩) (by simpa using hc.1) hy hC
        (wpSch_to2 h12 hs r _ _ _ _ hC hk hend h)
      simp only [lateD] at hw
      split at hw
      · exact hw
      · exact h12 _ hw
    · cases hk
  | (false, i) :: r, listed, listed', a, w, hC, hk, hend, h => by
    simp only [schTo2] at hk
    split at hk
    · rename_i hc
      simp only [Bool.and_eq_true] at hc
      have hr : Region.ready md ops listed = [i] := by simpa using hc.1
      refine ⟨fun h0 => absurd (hr ▸ h0) (by simp), fun j hj => ?_⟩
      rw [hr] at hj
      have : j = i := by simpa using hj
      subst this
      exact wpOp_mono (fun a' w' h' => ⟨.inr (by simp only [lateD, hc.2, if_true]; exact h'.1), wpSch_to2 h12 hs r _ _ _ _ h'.1 hk hend h'.2⟩) (wpOp_QF h)
    · cases hk
theorem wpSch_to1 {C1 C2 : World → Prop} {K : Act → World → Prop} {late : List Nat} (h12 : ∀ w, C1 w → C2 w) (hs : Region.noSelect ops = true) (s2 : List (Bool × Nat)) (listed' listed2 : Array Bool) (hk2 : schTo2 md ops late s2 listed' = some listed2) (hend : Region.ready md ops listed2 = []) :
    ∀ (steps : List (Bool × Nat)) (listed : Array Bool) (a : Act) (w : World), C1 w → schTo1 md ops late steps listed = some listed' →
    wpSch P ops C1 (fun a w => C2 w ∧ wpSch P ops C2 K s2 a w) steps a w → wpAnyG P md ops (NoQ K) (lateD late C1 C2) (s2.length + steps.length) listed a w
  | [], listed, a, w, hC, hk, h => by
    injection hk with hk; subst hk
    exact wpSch_to2 h12 hs s2 _ _ _ _ h.1 hk2 hend h.2
  | (true, i) :: r, listed, a, w, hC, hk, h => by
    simp only [schTo1] at hk
    split at hk
    · rename_i hc
      simp only [Bool.and_eq_true, waitsB, List.all_eq_true, Bool.or_eq_true] at hc
      obtain ⟨o, v, ho, hy, hC, h⟩ := h
      refine wpAnyG_first (C := C1) ho (Region.noSelect_spec hs) (fun _ _ _ h => h.elim) _ listed a w (fun j oj hj hji hun hno => ⟨Region.free_spec ho hc.1.2 j oj hj hji hun hno, fun w hw => ?_⟩) (by simpa using hc.1.1) hy hC
        (wpSch_to1 h12 hs s2 _ _ hk2 hend r _ _ _ hC hk h)
      simp only [lateD] at hw
      split at hw
      · rename_i hl
        have := hc.2 j (by simpa using hl)
        rw [hun, hj] at this
        simp only [Bool.false_eq_true, false_or] at this
        obtain ⟨e, he, hb⟩ := Array.any_eq_true'.1 this
        simp only [Bool.and_eq_true, beq_iff_eq] at hb
        exact absurd hb.2 (hno e he hb.1)
      · exact hw
    · cases hk
  | (false, i) :: r, listed, a, w, hC, hk, h => by
    simp only [schTo1] at hk
    split at hk
    · rename_i hc
      simp only [Bool.and_eq_true, Bool.not_eq_true'] at hc
      have hr : Region.ready md ops listed = [i] := by simpa using hc.1
      refine ⟨fun h0 => absurd (hr ▸ h0) (by simp), fun j hj => ?_⟩
      rw [hr] at hj
      have : j = i := by simpa using hj
      subst this
      exact wpOp_mono (fun a' w' h' => ⟨.inr (by simp only [lateD, hc.2]; exact h'.1), wpSch_to1 h12 hs s2 _ _ hk2 hend r _ _ _ h'.1 hk h'.2⟩) (wpOp_QF h)
    · cases hk
def schTo0 (md : Region.Mode) (ops : Array Oper) : List (Bool × Nat) → Array Bool → Option (Array Bool)
  | [], listed => some listed
  | (true, i) :: r, listed => if (Region.ready md ops listed).contains i && Region.free md ops listed i then schTo0 md ops r (listed.setIfInBounds i true) else none
  | (false, _) :: _, _ => none
theorem wpSch_to0 {C1 C2 : World → Prop} {KK : Act → World → Prop} {K : Act → World → Prop} {late : List Nat} (h12 : ∀ w, C1 w → C2 w) (hs : Region.noSelect ops = true) (fuel : Nat) (listed' : Array Bool)
    (hend : ∀ a w, K a w → wpAnyG P md ops (NoQ KK) (lateD late C1 C2) fuel listed' a w) :
    ∀ (steps : List (Bool × Nat)) (listed : Array Bool) (a : Act) (w : World), schTo0 md ops steps listed = some listed' → wpSch P ops C2 K steps a w → wpAnyG P md ops (NoQ KK) (lateD late C1 C2) (fuel + steps.length) listed a w
  | [], listed, a, w, hk, h => by
    injection hk with hk; subst hk
    exact hend a w h
  | (true, i) :: r, listed, a, w, hk, h => by
    simp only [schTo0] at hk
    split at hk
    · rename_i hc
      simp only [Bool.and_eq_true] at hc
      obtain ⟨o, v, ho, hy, hC, h⟩ := h
      refine wpAnyG_first (C := C2) ho (Region.noSelect_spec hs) (fun _ _ _ h => h.elim) _ listed a w (fun j oj hj hji hun hno => ⟨Region.free_spec ho hc.2 j oj hj hji hun hno, fun w hw => ?_⟩) (by simpa using hc.1) hy hC
        (wpSch_to0 h12 hs fuel _ hend r _ _ _ hk h)
      simp only [lateD] at hw
      split at hw
      · exact hw
      · exact h12 _ hw
    · cases hk
  | (false, _) :: _, _, _, _, hk, _ => by cases hk
def lateOf (s2 : List (Bool × Nat)) : List Nat := (s2.filter fun x => !x.1).map (·.2)
def schOkL (md : Region.Mode) (ops : Array Oper) (s0 s1 s2 : List (Bool × Nat)) (listed : Array Bool) : Bool :=
  match schTo0 md ops s0 listed with
  | some l0 => match schTo1 md ops (lateOf s2) s1 l0 with
    | some l => match schTo2 md ops (lateOf s2) s2 l with
      | some l2 => (Region.ready md ops l2).isEmpty
      | none => false
    | none => false
  | none => false
theorem wp_region_schL {id : Nat} {Q : Exit → Act → World → Prop} {C1 C2 : World → Prop} {a : Act} {w : World} (s0 s1 s2 : List (Bool × Nat)) (h12 : ∀ w, C1 w → C2 w) (hm : P.follows .mixedOrders = true) (hs : Region.noSelect ops = true) (hlen : s2.length + s1.length + s0.length = ops.size)
    (hk : schOkL .any ops s0 s1 s2 (Array.replicate ops.size false) = true) (h : wpSch P ops C2 (fun a w => C1 w ∧ wpSch P ops C1 (fun a w => C2 w ∧ wpSch P ops C2 (Q .normal) s2 a w) s1 a w) s0 a w.drew) : (Code.region id ops true).wp P Q a w := by
  refine Code.wp_mono (noQ_imp fun _ _ h => h) (wp_region_any hm (wpAny_of_G (D := lateD (lateOf s2) C1 C2) _ _ _ _ ?_))
  unfold schOkL at hk
  split at hk
  · rename_i l0 hl0
    split at hk
    · rename_i l1 hl1
      split at hk
      · rename_i l2 hl2
        have := wpSch_to0 (P := P) (md := .any) (late := lateOf s2) h12 hs (s2.length + s1.length) l0 (fun a w h => wpSch_to1 (P := P) (md := .any) h12 hs s2 _ _ hl2 (by simpa using hk) s1 _ a w h.1 hl1 h.2) s0 _ a w.drew hl0 h
        rw [hlen] at this
        exact this
      · cases hk
    · cases hk
  · cases hk
end
section
variable {α : Type} {P : Program} {w0 : World} {n : Nat} {S N H : Hp} {l : Fr} {ops : Array Oper} {C : World → Prop} {K : Act → World → Prop} {r : List (Bool × Nat)} {i : Nat}
theorem At.drawL {id : Nat} {Q : Exit → Act → World → Prop} (L2 : Hp) (s0 s1 s2 : List (Bool × Nat)) (h12 : ∀ e ∈ L2, e ∈ S ++ (N ++ H)) (hm : P.follows .mixedOrders = true) (hk : (Region.noSelect ops && (s2.length + s1.length + s0.length == ops.size) && schOkL .any ops s0 s1 s2 (Array.replicate ops.size false)) = true)
    (h : At w0 n S l N H (wpSch P ops (Kept L2) (fun a w => Kept (S ++ (N ++ H)) w ∧ wpSch P ops (Kept (S ++ (N ++ H))) (fun a w => Kept L2 w ∧ wpSch P ops (Kept L2) (Q .normal) s2 a w) s1 a w) s0)) : At w0 n S l N H ((Code.region id ops true).wp P Q) := fun a w ha hw => by
  simp only [Bool.and_eq_true] at hk
  exact wp_region_schL s0 s1 s2 (fun w hw e he => hw e (h12 e he)) hm hk.1.1 (by simpa using hk.1.2) hk.2 (h a w.drew ha hw.drew)
theorem At.stage {C' : World → Prop} {s2 : List (Bool × Nat)} (hC : Cl w0 S N H C') (h : At w0 n S l N H (wpSch P ops C' K s2)) : At w0 n S l N H (wpSch P ops C (fun a w => C' w ∧ wpSch P ops C' K s2 a w) []) := fun a w ha hw => ⟨hC w hw, h a w ha hw⟩
theorem At.sliceForm {X : Act → World → Prop} {v : Value} {sz m : Nat} {xs : List Value} (hr : RdIn (fun w => St w0 w S N H) v sz m xs) (h : ∀ A cap, v = .slice A m cap → m ≤ cap → (0 < m → ∃ b o, A = some ⟨b, o, none⟩) → At w0 n S l N H X) : At w0 n S l N H X := fun a w ha hw => by
  obtain ⟨A, cap, hv, h1, h2, h3, h4⟩ := hr w hw
  exact h A cap hv h1 (fun hm => by obtain ⟨b, o, hA, _⟩ := h4 hm; exact ⟨b, o, hA⟩) a w ha hw
theorem At.rowForm {X : Act → World → Prop} {v : Value} {E : TypeId} {sz m : Nat} {xs : List Value} (hm : Ent.row v E sz m xs ∈ S ++ (N ++ H)) (h0 : 0 < m) (h : ∀ g cap, v = .slice (some ⟨g, 0, none⟩) m cap → At w0 n S l N H X) : At w0 n S l N H X := fun a w ha hw => by
  have := Holds.st hm w hw
  obtain ⟨_, ⟨_, rfl⟩ | ⟨g, cap, cur, hv, _⟩⟩ := this
  · exact absurd h0 (Nat.lt_irrefl _)
  · exact h g cap hv a w ha hw
theorem setFrom_toList : ∀ (vs : List Value) (cs : Array Value) (j : Nat), (setFrom cs j vs).toList = setL cs.toList j vs
  | [], cs, j => rfl
  | v :: vs, cs, j => by rw [setFrom, setL, setFrom_toList vs]; simp
theorem setL_take : ∀ (vs cs : List Value) (j m : Nat), j + vs.length ≤ m → (setL cs j vs).take m = setL (cs.take m) j vs
  | [], cs, j, m, _ => rfl
  | v :: vs, cs, j, m, h => by
    simp only [List.length_cons] at h
    rw [setL, setL, setL_take vs _ _ _ (by omega), List.take_set]
theorem setFrom_size : ∀ (vs : List Value) (cs : Array Value) (j : Nat), (setFrom cs j vs).size = cs.size
  | [], cs, j => rfl
  | v :: vs, cs, j => by rw [setFrom, setFrom_size vs]; simp
theorem At.stRow {p x : Operand} {T ty : TypeId} {pos : String} {af : Array Edge} {gd : Option (Nat × Bool)} {k : Ek α} {E : TypeId} {g cap m : Nat} {j : Int} {xs : List α} {y : α} {u : Value} {N' H' : Hp} (ho : ops[i]? = some ⟨none, .store T p x, ty, pos, af, gd⟩)
    (hg : wantG ops l ⟨none, .store T p x, ty, pos, af, gd⟩ = some true) (hs : (P.info? T).map (·.size) = some k.sz) (hp0 : Ev n l true p (elemPtr (.slice (some ⟨g, 0, none⟩) m cap) (j.toNat * k.sz))) (hx : Ev n l true x u) (hy : u.cells = (k.enc y).toArray)
    (hu : Up N H (.row (.slice (some ⟨g, 0, none⟩) m cap) E k.sz m (k.all xs)) (.row (.slice (some ⟨g, 0, none⟩) m cap) E k.sz m (k.all (xs.set j.toNat y))) N' H') (hm0 : xs.length = m) (hj : 0 ≤ j ∧ j < m)
    (h : Cl w0 S N' H' C ∧ At w0 n S l N' H' (wpSch P ops C K r)) : At w0 n S l N H (wpSch P ops C K ((false, i) :: r)) :=
  At.eW (d := none) ho hg fun a w ha hw => by
    subst hm0
    have hp : Ev n l true p (.pointer (some ⟨g, 0 + j.toNat * k.sz, none⟩)) := by simpa [elemPtr, add_addr] using hp0
    have hm : Ent.row (.slice (some ⟨g, 0, none⟩) xs.length cap) E k.sz xs.length (k.all xs) ∈ N ++ H := by cases hu with | n hl => exact List.mem_append_left _ hl.mem | h hl => exact List.mem_append_right _ hl.mem
    have hrow := hw.has _ hm
    obtain ⟨hlen, ⟨h1, _⟩ | ⟨g', cap', cur, hv, hb, hgb, hnc, hcm, hcs, htake⟩⟩ := hrow
    · cases h1
    · simp only [Value.slice.injEq, Option.some.injEq, Addr.mk.injEq, and_true, true_and] at hv
      obtain ⟨rfl, rfl⟩ := hv
      have hjn : j.toNat < xs.length := by omega
      have hle : j.toNat * k.sz + k.sz ≤ xs.length * k.sz := by rw [← Nat.succ_mul]; exact Nat.mul_le_mul_right _ hjn
      have hcap : xs.length * k.sz ≤ cap * k.sz := Nat.mul_le_mul_right _ hnc
      obtain ⟨w', h2, h3, h4, h5, h6, h7, h8⟩ := run_storeCells P (E := E) (k.enc y) 0 (0 + j.toNat * k.sz) w cur hgb (by rw [k.len, hcs]; omega) (k.one y)
      have hrun : (execOp a.eval ⟨none, .store T p x, ty, pos, af, gd⟩).run P w = .ok .skip w' := by
        have e1 : (k.enc y).toArray.size = k.sz := by simp [k.len]
        simp [execOp, hp rfl a ha, hx rfl a ha, Instr.storeAt, Instr.sureAddr, storeVar, run_sizeOf hs, hy, e1]
        simp only [Nat.zero_add] at h2
        rw [h2]; rfl
      unfold Oper.wp
      rw [hrun, Oper.upon_skip]
      have hown : (Ent.row (.slice (some ⟨g, 0, none⟩) xs.length cap) E k.sz xs.length (k.all (xs.set j.toNat y))).holds w' := by
        refine ⟨by rw [k.all_length, List.length_set], .inr ⟨g, cap, _, rfl, hb, h3, hnc, hcm, by rw [setFrom_size]; exact hcs, ?_⟩⟩
        rw [setFrom_toList, setL_take _ _ _ _ (by rw [k.len]; omega), htake, ← k.all_set xs j.toNat y hjn]
        simp
      have := hw.upd hu rfl hown h4 h5 h6 (by omega) fun q _ hq => h8 q fun e => hq (by rw [e]; rfl)
      exact ⟨h.1 _ this, h.2 _ _ ha this⟩
theorem R.indexSlE {g : Bool} {d : Option Tmp} {ty : TypeId} {pos : String} {af : Array Edge} {gd : Option (Nat × Bool)} {x y : Operand} {T E b o len cap m : Nat} {k : IntKind} {j : Int} (hT : P.underlying T = some (.slice E)) (hs : (P.info? E).map (·.size) = some m) (hx : Ev n l g x (.slice (some ⟨b, o, none⟩) len cap)) (hy : Ev n l g y (.int k j))
    (hj : g = true → 0 ≤ j ∧ j < len) : RunsC P n l C g ⟨d, .indexAddr T x y, ty, pos, af, gd⟩ (elemPtr (.slice (some ⟨b, o, none⟩) len cap) (j.toNat * m)) := fun hg a w ha hw => by
  have := R.indexSl (P := P) (C := C) (d := d) (ty := ty) (pos := pos) (af := af) (gd := gd) hT hs hx hy hj hg a w ha hw
  simpa [elemPtr, add_addr] using this
theorem Cl.none : Cl w0 S N H (Kept []) := fun _ _ _ h => nomatch h
theorem At.callVF {d : Nat} {fx : Operand} {xs : List Operand} {ats : Array TypeId} {ty : TypeId} {pos : String} {af : Array Edge} {gd : Option (Nat × Bool)} {g : Bool} {f : FuncId} {fst cap : List Value} {vs args : List Value} {S' : Hp} {v0 : Value}
    (ho : ops[i]? = some ⟨some d, .call { callee := .value fx, args := xs.toArray, argTypes := ats }, ty, pos, af, gd⟩) (hdn : Nat.blt d n = true) (hg : wantG ops l ⟨some d, .call { callee := .value fx, args := xs.toArray, argTypes := ats }, ty, pos, af, gd⟩ = some g)
    (hf : Ev n l g fx (.func (.func f) fst.toArray cap.toArray)) (hxs : Evs n l g xs vs) (hargs : fst ++ vs ++ cap = args) (hS : Rds (fun w => St w0 w S N H) S') (hc : g = true → Fn P f args S' [] (IsV v0)) (hC : Cl w0 S N H C)
    (h : At w0 n S ((d, g, v0) :: l) N H (wpSch P ops C K r)) : At w0 n S l N H (wpSch P ops C K ((false, i) :: r)) :=
  At.callG ho hdn hg hf hxs hargs hc hS.all (fun _ _ _ _ hR => ⟨hR.2.2, hR.1⟩) hC h
end
section
variable {P : Program} {w0 : World} {n : Nat} {S N H : Hp} {l : Fr} {Q : Exit → Act → World → Prop}
def Mid1 (w0 : World) (n : Nat) (S : Hp) {β0 : Type} (I : β0 → Prop) (L : β0 → Fr) (NN HH : β0 → Hp) : Act → World → Prop := fun a w => ∃ x0, I x0 ∧ Fk n (L x0) a ∧ St w0 w S (NN x0) (HH x0)
theorem At.cut1 {β0 : Type} (I : β0 → Prop) (L : β0 → Fr) (NN HH : β0 → Hp) {c : Code} {K : Act → World → Prop} (h1 : At w0 n S l N H (c.wp P (Exit.then (Mid1 w0 n S I L NN HH) Q))) (h2 : ∀ (x0 : β0), I x0 → At w0 n S (L x0) (NN x0) (HH x0) K) : At w0 n S l N H (c.wp P (Exit.then K Q)) := fun a w ha hw => by
  refine Code.wp_mono ?_ (h1 a w ha hw)
  rintro e a' w' h
  cases e with
  | normal => obtain ⟨x0, hI, k1, k2⟩ := h; exact h2 x0 hI a' w' k1 k2
  | _ => exact h
theorem At.mid1 {β0 : Type} {I : β0 → Prop} {L : β0 → Fr} {NN HH : β0 → Hp} (x0 : β0) (hI : I x0) (hl : Sub l (L x0)) (hN : (NN x0).Sublist N) (hH : HH x0 = H) : At w0 n S l N H (Mid1 w0 n S I L NN HH) := fun a w ha hw => by
  subst hH
  exact ⟨x0, hI, ha.weak hl.look, hw.forget hN⟩
def Mid2 (w0 : World) (n : Nat) (S : Hp) {β0 β1 : Type} (I : β0 → β1 → Prop) (L : β0 → β1 → Fr) (NN HH : β0 → β1 → Hp) : Act → World → Prop := fun a w => ∃ x0 x1, I x0 x1 ∧ Fk n (L x0 x1) a ∧ St w0 w S (NN x0 x1) (HH x0 x1)
theorem At.cut2 {β0 β1 : Type} (I : β0 → β1 → Prop) (L : β0 → β1 → Fr) (NN HH : β0 → β1 → Hp) {c : Code} {K : Act → World → Prop} (h1 : At w0 n S l N H (c.wp P (Exit.then (Mid2 w0 n S I L NN HH) Q))) (h2 : ∀ (x0 : β0) (x1 : β1), I x0 x1 → At w0 n S (L x0 x1) (NN x0 x1) (HH x0 x1) K) : At w0 n S l N H (c.wp P (Exit.then K Q)) := fun a w ha hw => by
  refine Code.wp_mono ?_ (h1 a w ha hw)
  rintro e a' w' h
  cases e with
  | normal => obtain ⟨x0, x1, hI, k1, k2⟩ := h; exact h2 x0 x1 hI a' w' k1 k2
  | _ => exact h
theorem At.mid2 {β0 β1 : Type} {I : β0 → β1 → Prop} {L : β0 → β1 → Fr} {NN HH : β0 → β1 → Hp} (x0 : β0) (x1 : β1) (hI : I x0 x1) (hl : Sub l (L x0 x1)) (hN : (NN x0 x1).Sublist N) (hH : HH x0 x1 = H) : At w0 n S l N H (Mid2 w0 n S I L NN HH) := fun a w ha hw => by
  subst hH
  exact ⟨x0, x1, hI, ha.weak hl.look, hw.forget hN⟩
def Mid3 (w0 : World) (n : Nat) (S : Hp) {β0 β1 β2 : Type} (I : β0 → β1 → β2 → Prop) (L : β0 → β1 → β2 → Fr) (NN HH : β0 → β1 → β2 → Hp) : Act → World → Prop := fun a w => ∃ x0 x1 x2, I x0 x1 x2 ∧ Fk n (L x0 x1 x2) a ∧ St w0 w S (NN x0 x1 x2) (HH x0 x1 x2)
theorem At.cut3 {β0 β1 β2 : Type} (I : β0 → β1 → β2 → Prop) (L : β0 → β1 → β2 → Fr) (NN HH : β0 → β1 → β2 → Hp) {c : Code} {K : Act → World → Prop} (h1 : At w0 n S l N H (c.wp P (Exit.then (Mid3 w0 n S I L NN HH) Q))) (h2 : ∀ (x0 : β0) (x1 : β1) (x2 : β2), I x0 x1 x2 → At w0 n S (L x0 x1 x2) (NN x0 x1 x2) (HH x0 x1 x2) K) : At w0 n S l N H (c.wp P (Exit.then K Q)) := fun a w ha hw => by
  refine Code.wp_mono ?_ (h1 a w ha hw)
  rintro e a' w' h
  cases e with
  | normal => obtain ⟨x0, x1, x2, hI, k1, k2⟩ := h; exact h2 x0 x1 x2 hI a' w' k1 k2
  | _ => exact h
theorem At.mid3 {β0 β1 β2 : Type} {I : β0 → β1 → β2 → Prop} {L : β0 → β1 → β2 → Fr} {NN HH : β0 → β1 → β2 → Hp} (x0 : β0) (x1 : β1) (x2 : β2) (hI : I x0 x1 x2) (hl : Sub l (L x0 x1 x2)) (hN : (NN x0 x1 x2).Sublist N) (hH : HH x0 x1 x2 = H) : At w0 n S l N H (Mid3 w0 n S I L NN HH) := fun a w ha hw => by
  subst hH
  exact ⟨x0, x1, x2, hI, ha.weak hl.look, hw.forget hN⟩
def Mid4 (w0 : World) (n : Nat) (S : Hp) {β0 β1 β2 β3 : Type} (I : β0 → β1 → β2 → β3 → Prop) (L : β0 → β1 → β2 → β3 → Fr) (NN HH : β0 → β1 → β2 → β3 → Hp) : Act → World → Prop := fun a w => ∃ x0 x1 x2 x3, I x0 x1 x2 x3 ∧ Fk n (L x0 x1 x2 x3) a ∧ St w0 w S (NN x0 x1 x2 x3) (HH x0 x1 x2 x3)
theorem At.cut4 {β0 β1 β2 β3 : Type} (I : β0 → β1 → β2 → β3 → Prop) (L : β0 → β1 → β2 → β3 → Fr) (NN HH : β0 → β1 → β2 → β3 → Hp) {c : Code} {K : Act → World → Prop} (h1 : At w0 n S l N H (c.wp P (Exit.then (Mid4 w0 n S I L NN HH) Q))) (h2 : ∀ (x0 : β0) (x1 : β1) (x2 : β2) (x3 : β3), I x0 x1 x2 x3 → At w0 n S (L x0 x1 x2 x3) (NN x0 x1 x2 x3) (HH x0 x1 x2 x3) K) : At w0 n S l N H (c.wp P (Exit.then K Q)) := fun a w ha hw => by
  refine Code.wp_mono ?_ (h1 a w ha hw)
  rintro e a' w' h
  cases e with
  | normal => obtain ⟨x0, x1, x2, x3, hI, k1, k2⟩ := h; exact h2 x0 x1 x2 x3 hI a' w' k1 k2
  | _ => exact h
theorem At.mid4 {β0 β1 β2 β3 : Type} {I : β0 → β1 → β2 → β3 → Prop} {L : β0 → β1 → β2 → β3 → Fr} {NN HH : β0 → β1 → β2 → β3 → Hp} (x0 : β0) (x1 : β1) (x2 : β2) (x3 : β3) (hI : I x0 x1 x2 x3) (hl : Sub l (L x0 x1 x2 x3)) (hN : (NN x0 x1 x2 x3).Sublist N) (hH : HH x0 x1 x2 x3 = H) : At w0 n S l N H (Mid4 w0 n S I L NN HH) := fun a w ha hw => by
  subst hH
  exact ⟨x0, x1, x2, x3, hI, ha.weak hl.look, hw.forget hN⟩
end
end Go.Proofs.YtbolanigdkgbdaaGreat
namespace Go.Proofs.YtbolanigdkgbdaaGreat
open Go Go.RowKit
set_option linter.unusedSectionVars false
variable [Df]
set_option linter.unusedVariables false
variable {κ α : Type}
def mEs (kf : κ → Value) (vf : α → Value) : Nat → List (κ × α) → List MapEntry
  | _, [] => []
  | b, x :: r => { key := kf x.1, val := vf x.2, born := b } :: mEs kf vf (b + 1) r
abbrev mapE (kf : κ → Value) (vf : α → Value) (b : Nat) (l : List (κ × α)) : Ent := .blk b (.map (mEs kf vf 0 l).toArray l.length)
theorem mEs_get (kf : κ → Value) (vf : α → Value) : ∀ (l : List (κ × α)) (b i : Nat), (mEs kf vf b l)[i]? = (l[i]?).map fun x => { key := kf x.1, val := vf x.2, born := b + i }
  | [], _, _ => by simp [mEs]
  | x :: r, b, 0 => by simp [mEs]
  | x :: r, b, i + 1 => by
    simp only [mEs, List.getElem?_cons_succ, mEs_get kf vf r (b + 1) i]
    congr 1
    funext x
    congr 1
    omega
theorem mEs_append (kf : κ → Value) (vf : α → Value) (x : κ × α) : ∀ (l : List (κ × α)) (b : Nat), mEs kf vf b (l ++ [x]) = mEs kf vf b l ++ [{ key := kf x.1, val := vf x.2, born := b + l.length }]
  | [], b => by simp [mEs]
  | y :: r, b => by
    simp only [List.cons_append, mEs, mEs_append kf vf x r (b + 1), List.length_cons]
    congr 4
    omega
theorem mEs_modify (kf : κ → Value) (vf : α → Value) (l : List (κ × α)) (j : Nat) (k : κ) (v : α) :
    (mEs kf vf 0 l).toArray.modify j (fun e => { e with key := kf k, val := vf v }) = (mEs kf vf 0 (l.set j (k, v))).toArray := by
  apply Array.ext_getElem?
  intro i
  simp only [Array.getElem?_modify, List.getElem?_toArray, mEs_get, List.getElem?_set]
  by_cases h : j = i
  · subst h
    simp only [if_true]
    cases hl : l[j]? with
    | none => have := List.getElem?_eq_none_iff.1 hl; simp; omega
    | some x => have := (List.getElem?_eq_some_iff.1 hl).1; simp [this]
  · simp [h]
section
variable {P : Program} {w0 : World} {n : Nat} {S N H : Hp} {l : Fr} {ops : Array Oper} {C : World → Prop} {K : Act → World → Prop} {r : List (Bool × Nat)} {i : Nat}
theorem At.makeMap {d : Nat} {T ty : TypeId} {pos : String} {af : Array Edge} {gd : Option (Nat × Bool)} (kf : κ → Value) (vf : α → Value) (ho : ops[i]? = some ⟨some d, .makeMap T none, ty, pos, af, gd⟩) (hdn : Nat.blt d n = true)
    (hg : wantG ops l ⟨some d, .makeMap T none, ty, pos, af, gd⟩ = some true)
    (h : ∀ b, w0.heap.size ≤ b → Cl w0 S (mapE kf vf b [] :: N) H C ∧ At w0 n S ((d, true, .map (some b)) :: l) (mapE kf vf b [] :: N) H (wpSch P ops C K r)) :
    At w0 n S l N H (wpSch P ops C K ((false, i) :: r)) :=
  At.eW (d := some d) ho hg fun a w ha hw => by
    unfold Oper.wp
    have hrun : (execOp a.eval ⟨some d, .makeMap T none, ty, pos, af, gd⟩).run P w = .ok (.value (.map (some w.heap.size))) (w.alloc (.map #[] 0)) := by
      simp [execOp, Instr.makeMap]
    rw [hrun, Oper.upon_value]
    obtain ⟨h1, h2⟩ := h w.heap.size hw.size
    have := hw.alloc (.map #[] 0)
    exact ⟨h1 _ this, h2 _ _ (ha.put (by simpa using hdn) rfl) this⟩
end
variable [DecidableEq κ]
def aidx : List (κ × α) → κ → Nat → Option (Nat × α)
  | [], _, _ => none
  | x :: r, k, i => if k = x.1 then some (i, x.2) else aidx r k (i + 1)
def aget (l : List (κ × α)) (k : κ) : Option α := (aidx l k 0).map (·.2)
def aput (l : List (κ × α)) (k : κ) (v : α) : List (κ × α) := match aidx l k 0 with
  | some (j, _) => l.set j (k, v)
  | none => l ++ [(k, v)]
theorem aidx_spec : ∀ (l : List (κ × α)) (k : κ) (i j : Nat) (v : α), aidx l k i = some (j, v) → i ≤ j ∧ l[j - i]? = some (k, v)
  | [], _, _, _, _, h => by simp [aidx] at h
  | x :: r, k, i, j, v, h => by
    simp only [aidx] at h
    split at h
    · rename_i e
      simp only [Option.some.injEq, Prod.mk.injEq] at h
      obtain ⟨rfl, rfl⟩ := h
      simp [e]
    · obtain ⟨h1, h2⟩ := aidx_spec r k (i + 1) j v h
      refine ⟨by omega, ?_⟩
      rw [show j - i = (j - (i + 1)) + 1 from by omega]
      simpa using h2
structure KeyAsk (P : Program) (T : TypeId) (kf : κ → Value) : Prop where
  chk : ∀ em k w, (Instr.checkKey em 10000 T (kf k)).run P w = .ok () w
  eql : ∀ a b w, (Op.equal T (kf a) (kf b)).run P w = .ok (decide (a = b)) w
  bits : ∀ k, Instr.sameBits 10000 (kf k) (kf k) = true
  wide : (match P.underlying T with | some (.array _ _) | some (.struct _) => true | _ => false) = true
structure KeyOk (P : Program) (T : TypeId) (kf : κ → Value) : Prop where
  chk : ∀ em k w, (Instr.checkKey em 10000 T (kf k)).run P w = .ok () w
  find : ∀ (α : Type) (vf : α → Value) (k : κ) (l : List (κ × α)) (w : World), (Instr.findKey T (kf k) (mEs kf vf 0 l)).run P w = .ok ((aidx l k 0).map fun x => (x.1, vf x.2)) w
  bits : ∀ k, Instr.sameBits 10000 (kf k) (kf k) = true
theorem findNow_eq {d : TypeDesc} {kf : κ → Value} (vf : α → Value) (hs : ∀ a b : κ, Instr.sameNow d (kf a) (kf b) = some (decide (a = b))) (k : κ) : ∀ (l : List (κ × α)) (b i : Nat), Instr.findNow d (kf k) (mEs kf vf b l) i = some ((aidx l k i).map fun x => (x.1, vf x.2))
  | [], b, i => by simp [mEs, Instr.findNow, aidx]
  | x :: r, b, i => by
    simp only [mEs, Instr.findNow, hs, aidx]
    by_cases h : k = x.1
    · simp [h]
    · simp only [h, decide_false, if_false]
      exact findNow_eq vf hs k r (b + 1) (i + 1)
theorem keyOk_now {P : Program} {T : TypeId} {d : TypeDesc} {kf : κ → Value} (hT : P.underlying T = some d) (hc : ∀ em k w, (Instr.checkKey em 10000 T (kf k)).run P w = .ok () w) (hs : ∀ a b : κ, Instr.sameNow d (kf a) (kf b) = some (decide (a = b))) (hb : ∀ k, Instr.sameBits 10000 (kf k) (kf k) = true) : KeyOk P T kf :=
  ⟨hc, fun α vf k l w => MapKept.run_findKey hT (findNow_eq vf hs k l 0 0), hb⟩
abbrev kfZ : Int → Value := fun k => .int .i64 k
abbrev kfB : Bool → Value := fun k => .bool k
theorem keyOk_int {P : Program} {T : TypeId} (hT : P.underlying T = some (.int .i64)) : KeyOk P T kfZ :=
  keyOk_now hT (fun em k w => by rw [show (10000 : Nat) = 9999 + 1 from rfl, Instr.checkKey]; simp [run_underlying hT]) (fun a b => by simp [Instr.sameNow]; rfl) (fun k => by simp [Instr.sameBits])
theorem keyOk_bool {P : Program} {T : TypeId} (hT : P.underlying T = some .bool) : KeyOk P T kfB :=
  keyOk_now hT (fun em k w => by rw [show (10000 : Nat) = 9999 + 1 from rfl, Instr.checkKey]; simp [run_underlying hT]) (fun a b => by cases a <;> cases b <;> rfl) (fun k => by simp [Instr.sameBits])
section
variable {P : Program} {w0 : World} {n : Nat} {S N H : Hp} {l : Fr} {ops : Array Oper} {C : World → Prop} {K : Act → World → Prop} {r : List (Bool × Nat)} {i : Nat}
theorem At.mapUp {T kt et ty : TypeId} {pos : String} {af : Array Edge} {gd : Option (Nat × Bool)} {m x y : Operand} {kf : κ → Value} {vf : α → Value} {b : Nat} {ml : List (κ × α)} {k : κ} {v : α} {N' H' : Hp}
    (ho : ops[i]? = some ⟨none, .mapUpdate T m x y, ty, pos, af, gd⟩) (hg : wantG ops l ⟨none, .mapUpdate T m x y, ty, pos, af, gd⟩ = some true) (hT : P.underlying T = some (.map kt et)) (hk : KeyOk P kt kf)
    (hm : Ev n l true m (.map (some b))) (hx : Ev n l true x (kf k)) (hy : Ev n l true y (vf v)) (hu : Up N H (mapE kf vf b ml) (mapE kf vf b (aput ml k v)) N' H')
    (h : Cl w0 S N' H' C ∧ At w0 n S l N' H' (wpSch P ops C K r)) : At w0 n S l N H (wpSch P ops C K ((false, i) :: r)) :=
  At.eW (d := none) ho hg fun a w ha hw => by
    have hmem : mapE kf vf b ml ∈ N ++ H := by cases hu with | n hl => exact List.mem_append_left _ hl.mem | h hl => exact List.mem_append_right _ hl.mem
    have hb : w.heap[b]? = some (.map (mEs kf vf 0 ml).toArray ml.length) := hw.has _ hmem
    have hlt : b < w.heap.size := (Array.getElem?_eq_some_iff.1 hb).1
    have hrun : (execOp a.eval ⟨none, .mapUpdate T m x y, ty, pos, af, gd⟩).run P w = .ok .skip { w with heap := w.heap.setIfInBounds b (.map (mEs kf vf 0 (aput ml k v)).toArray (aput ml k v).length) } := by
      have hf := hk.find _ vf k ml w
      have hupd : (Instr.mapUpdate T (.map (some b)) (kf k) (vf v)).run P w = .ok () { w with heap := w.heap.setIfInBounds b (.map (mEs kf vf 0 (aput ml k v)).toArray (aput ml k v).length) } := by
        unfold aput
        cases hi : aidx ml k 0 with
        | none =>
          rw [hi] at hf
          simp only [Option.map_none] at hf
          have e1 : (mEs kf vf 0 (ml ++ [(k, v)])).toArray = (mEs kf vf 0 ml).toArray.push { key := kf k, val := vf v, born := ml.length } := by
            rw [mEs_append]; simp
          simp [Instr.mapUpdate, run_underlying hT, MapKept.run_getObj_map hb, hk.chk, hf, MapKept.run_setObj_map _ hb, Result.andThen, e1]
        | some jv =>
          obtain ⟨j, u⟩ := jv
          rw [hi] at hf
          simp only [Option.map_some] at hf
          obtain ⟨h1, h2⟩ := aidx_spec ml k 0 j u hi
          simp only [Nat.sub_zero] at h2
          have e1 : (mEs kf vf 0 ml)[j]? = some { key := kf k, val := vf u, born := 0 + j } := by rw [mEs_get, h2]; rfl
          have e2 := mEs_modify kf vf ml j k v
          simp at e2
          have e3 : (Instr.keyThatStays (kf k) (kf k)).run P w = .ok (kf k) w := by simp [Instr.keyThatStays, hk.bits]
          simp [Instr.mapUpdate, run_underlying hT, MapKept.run_getObj_map hb, hk.chk, hf, MapKept.run_setObj_map _ hb, Result.andThen, e1, e3, e2]
      simp [execOp, hm rfl a ha, hx rfl a ha, hy rfl a ha, hupd]
    unfold Oper.wp
    rw [hrun, Oper.upon_skip]
    have := hw.upd (w' := { w with heap := w.heap.setIfInBounds b (.map (mEs kf vf 0 (aput ml k v)).toArray (aput ml k v).length) }) hu rfl (show (Ent.blk b (.map (mEs kf vf 0 (aput ml k v)).toArray (aput ml k v).length)).holds _ from by simp [Ent.holds, hlt]) rfl rfl rfl (by simp) fun q _ hq => by
      have : b ≠ q := fun e => hq (by rw [e]; rfl)
      simp [this]
    exact ⟨h.1 _ this, h.2 _ _ ha this⟩
def agetV (vf : α → Value) (z : Value) (l : List (κ × α)) (k : κ) : Value := match aget l k with
  | some v => vf v
  | none => z
theorem R.lookup {g : Bool} {d : Option Tmp} {T kt et ty : TypeId} {pos : String} {af : Array Edge} {gd : Option (Nat × Bool)} {m x : Operand} {kf : κ → Value} {vf : α → Value} {b : Nat} {ml : List (κ × α)} {k : κ} {z : Value} (hT : P.underlying T = some (.map kt et)) (hk : KeyOk P kt kf) (hz : (P.info? et).bind (·.zero) = some z)
    (hm : Ev n l g m (.map (some b))) (hx : Ev n l g x (kf k)) (hE : ∀ w, C w → (mapE kf vf b ml).holds w) : RunsC P n l C g ⟨d, .lookup T m x false, ty, pos, af, gd⟩ (agetV vf z ml k) := fun hg a w ha hw => by
  have hb : w.heap[b]? = some (.map (mEs kf vf 0 ml).toArray ml.length) := hE w hw
  have hf := hk.find _ vf k ml w
  have hzv : (zeroValue et).run P w = .ok z w := by
    cases hi : P.info? et with
    | none => rw [hi] at hz; cases hz
    | some inf => rw [hi] at hz; simp at hz; simp [zeroValue, typeInfo, hi, hz]
  unfold agetV aget
  cases hi : aidx ml k 0 with
  | none =>
    rw [hi] at hf
    simp only [Option.map_none] at hf
    simp [execOp, hm.eq hg ha, hx.eq hg ha, Instr.lookup, run_underlying hT, MapKept.run_getObj_map hb, hk.chk, hf, hzv]
  | some jv =>
    rw [hi] at hf
    simp only [Option.map_some] at hf
    simp [execOp, hm.eq hg ha, hx.eq hg ha, Instr.lookup, run_underlying hT, MapKept.run_getObj_map hb, hk.chk, hf]
end
section
variable {P : Program} {w0 : World} {n : Nat} {S N H : Hp} {l : Fr} {C : World → Prop}
theorem At.rowForm2 {X : Act → World → Prop} {v : Value} {E : TypeId} {sz m : Nat} {xs : List Value} (hm : Ent.row v E sz m xs ∈ S ++ (N ++ H)) (h0 : 0 < m) (h : ∀ g cap, v = .slice (some ⟨g, 0, none⟩) m cap → m ≤ cap → At w0 n S l N H X) : At w0 n S l N H X := fun a w ha hw => by
  have := Holds.st hm w hw
  obtain ⟨_, ⟨_, rfl⟩ | ⟨g, cap, cur, hv, _, _, hc, _⟩⟩ := this
  · exact absurd h0 (Nat.lt_irrefl _)
  · exact h g cap hv hc a w ha hw
theorem R.sliceHi {g0 : Bool} {d : Option Tmp} {x o : Operand} {T ty : TypeId} {pos : String} {af : Array Edge} {gd : Option (Nat × Bool)} {e sz m hi g cap : Nat} (hT : P.underlying T = some (.slice e)) (hs : (P.info? e).map (·.size) = some sz)
    (hx : Ev n l g0 x (.slice (some ⟨g, 0, none⟩) m cap)) (hh : Ev n l g0 o (.int .i64 hi)) (hb : g0 = true → hi ≤ cap) : RunsC P n l C g0 ⟨d, .slice T x none (some o) none, ty, pos, af, gd⟩ (.slice (some ⟨g, 0, none⟩) hi cap) := fun hg a w ha _ => by
  have h2 := hb hg
  by_cases hc : cap = 0
  · simp [execOp, hx.eq hg ha, hh.eq hg ha, Instr.sliceAt, Instr.slice, run_underlying hT, Instr.sliceBounds, Instr.sliceBound, asIntOf, run_sizeOf hs, hc]
    omega
  · simp [execOp, hx.eq hg ha, hh.eq hg ha, Instr.sliceAt, Instr.slice, run_underlying hT, Instr.sliceBounds, Instr.sliceBound, asIntOf, run_sizeOf hs, h2, hc, add_addr]
end
structure Cel where
  state : Int
  key : Int
  data : Int
instance : Inhabited Cel := ⟨⟨0, 0, 0⟩⟩
theorem Cel.ext' {a b : Cel} (h1 : a.state = b.state) (h2 : a.key = b.key) (h3 : a.data = b.data) : a = b := by cases a; cases b; simp_all
instance : DecidableEq Cel := fun a b => if h : a.state = b.state ∧ a.key = b.key ∧ a.data = b.data then isTrue (Cel.ext' h.1 h.2.1 h.2.2) else isFalse fun e => h (by subst e; exact ⟨rfl, rfl, rfl⟩)
abbrev cellK : Ek Cel := ⟨fun x => [.int .i64 x.state, .int .i64 x.key, .int .i64 x.data], 3, fun _ => rfl, fun _ v hv => by
  simp at hv; rcases hv with rfl | rfl | rfl <;> rfl⟩
theorem cellK_eqb {x y : Cel} : ((x.state == y.state) && ((x.key == y.key) && ((x.data == y.data) && true))) = decide (x = y) := by
  rw [Bool.eq_iff_iff]; simp; exact ⟨fun ⟨h1, h2, h3⟩ => Cel.ext' h1 h2 h3, fun e => by subst e; exact ⟨rfl, rfl, rfl⟩⟩
end Go.Proofs.YtbolanigdkgbdaaGreat
namespace Go.Proofs.YtbolanigdkgbdaaGreat
open Go Go.RowKit
set_option linter.unusedSectionVars false
variable [Df]
set_option linter.unusedVariables false
theorem St.perm {w0 w : World} {S N N' H : Hp} (h : St w0 w S N H) (hp : N.Perm N') : St w0 w S N' H := by
  have h1 : (N ++ H).Perm (N' ++ H) := hp.append_right H
  have hk : (keys (N ++ H)).Perm (keys (N' ++ H)) := h1.filterMap _
  exact ⟨h.os, h.tape, h.output, h.size, fun e he => h.has e (h1.mem_iff.2 he), h.hasS, hk.nodup_iff.1 h.nodup, fun k hkS hm => h.apart k hkS (hk.mem_iff.2 hm), fun e he => h.fresh e (hp.mem_iff.2 he), h.old⟩
theorem At.perm {w0 : World} {n : Nat} {S N N' H : Hp} {l : Fr} {X : Act → World → Prop} (hp : N.Perm N') (h : At w0 n S l N' H X) : At w0 n S l N H X := fun a w ha hw => h a w ha (hw.perm hp)
theorem At.fewer {w0 : World} {n : Nat} {S N N1 N' H : Hp} {l : Fr} {X : Act → World → Prop} (hs : N1.Sublist N) (hp : N1.Perm N') (h : At w0 n S l N' H X) : At w0 n S l N H X := fun a w ha hw => h a w ha ((hw.forget hs).perm hp)
abbrev SV := { v : Value // v.oneCell' = true }
instance : Inhabited SV := ⟨⟨.bool false, rfl⟩⟩
abbrev sK : Ek SV := ⟨fun x => [x.1], 1, fun _ => rfl, fun x v hv => by
  simp at hv; subst hv; exact x.2⟩
abbrev seg {α : Type} (k : Ek α) (E : TypeId) (gs : List (SV × List α)) : Hp := gs.map fun x => rowE k E x.1.1 x.2
theorem perm_set {α : Type} : ∀ (l : List α) (i : Nat) (x : α), i < l.length → (x :: l.eraseIdx i).Perm (l.set i x)
  | [], i, x, h => absurd h (Nat.not_lt_zero _)
  | y :: l, 0, x, _ => by simp
  | y :: l, i + 1, x, h => by
    simp only [List.eraseIdx_cons_succ, List.set_cons_succ]
    exact (List.Perm.swap y x _).trans ((perm_set l i x (by simpa using h)).cons y)
theorem At.rowOne {w0 : World} {n : Nat} {S N H : Hp} {l : Fr} {X : Act → World → Prop} {v : Value} {E : TypeId} {sz m : Nat} {xs : List Value} (hm : Ent.row v E sz m xs ∈ S ++ (N ++ H)) (h : v.oneCell' = true → At w0 n S l N H X) : At w0 n S l N H X := fun a w ha hw => by
  have := Holds.st hm w hw
  obtain ⟨_, ⟨rfl, _⟩ | ⟨g, cap, cur, rfl, _⟩⟩ := this <;> exact h rfl a w ha hw
theorem run_equalB {P : Program} {w : World} {T : TypeId} {a b : Bool} (hT : P.underlying T = some .bool) : (Op.equal T (.bool a) (.bool b)).run P w = .ok (a == b) w := run_equalIn_bool' (P := P) w 9999 T a b hT
theorem R.neqB {P : Program} {n : Nat} {l : Fr} {C : World → Prop} {g : Bool} {d : Option Tmp} {x y : Operand} {T U : TypeId} {ty : TypeId} {pos : String} {af : Array Edge} {gd : Option (Nat × Bool)} {a b : Bool} (hT : P.underlying T = some .bool) (hx : Ev n l g x (.bool a)) (hy : Ev n l g y (.bool b)) :
    RunsC P n l C g ⟨d, .binOp .neq T x y U, ty, pos, af, gd⟩ (.bool (!(a == b))) := fun hg A w ha _ => by
  simp [execOp, hx.eq hg ha, hy.eq hg ha, eqGuard, binOp, run_equalB hT]
end Go.Proofs.YtbolanigdkgbdaaGreat
namespace Go.Proofs.YtbolanigdkgbdaaGreat
open Go Go.RowKit
set_option linter.unusedSectionVars false
variable [Df]
set_option linter.unusedVariables false
variable {α : Type}
theorem gE_map {β : Type} [Inhabited α] [Inhabited β] (f : α → β) (hf : f default = default) (l : List α) (j : Int) : gE (l.map f) j = f (gE l j) := by
  unfold gE
  rw [List.getD_eq_getElem?_getD, List.getD_eq_getElem?_getD, List.getElem?_map]
  cases l[j.toNat]? with
  | none => exact hf.symm
  | some x => rfl
theorem gE_replicate [Inhabited α] {n : Nat} {z : α} {j : Int} (h : 0 ≤ j ∧ j < n) : gE (List.replicate n z) j = z := by
  unfold gE
  rw [List.getD_eq_getElem?_getD, List.getElem?_replicate, if_pos (by omega)]; rfl
theorem Ek.made [Inhabited α] (k : Ek α) (z : α) {zc : Array Value} (hz : zc = (k.enc z).toArray) (h0 : 0 < k.sz) (n : Nat) : (madeCells zc (n * k.sz)).toList = k.all (List.replicate n z) := by
  have hs : zc.size = k.sz := by rw [hz]; simp [k.len]
  apply List.ext_getElem?
  intro j
  by_cases hj : j < n * k.sz
  · have hi : j / k.sz < n := by rw [Nat.div_lt_iff_lt_mul h0]; exact hj
    have hq : j % k.sz < (k.enc z).length := by rw [k.len]; exact Nat.mod_lt _ h0
    have h1 := Ek.all_get k (List.replicate n z) (j := ((j / k.sz : Nat) : Int)) (j % k.sz) (u := (k.enc z)[j % k.sz]'hq) (by rw [gE_replicate ⟨Int.natCast_nonneg _, Int.ofNat_lt.2 hi⟩]; exact List.getElem?_eq_getElem hq) ⟨Int.natCast_nonneg _, by rw [List.length_replicate]; exact Int.ofNat_lt.2 hi⟩
    rw [Int.toNat_natCast, show j / k.sz * k.sz + j % k.sz = j from by rw [Nat.mul_comm]; exact Nat.div_add_mod j k.sz] at h1
    rw [h1]
    simp only [madeCells, Array.toList_map, Array.toList_range, List.getElem?_map, List.getElem?_range hj, Option.map_some, hs]
    have hlt : j % k.sz < zc.size := by rw [hs]; exact Nat.mod_lt _ h0
    rw [getElem!_pos zc _ hlt]
    subst hz; simp
  · rw [List.getElem?_eq_none (by simp [madeCells]; omega), List.getElem?_eq_none (by rw [k.all_length, List.length_replicate]; omega)]
section
variable {P : Program} {w0 : World} {n : Nat} {S N H : Hp} {l : Fr} {ops : Array Oper} {C : World → Prop} {K : Act → World → Prop} {r : List (Bool × Nat)} {i : Nat}
theorem At.makeSl [Inhabited α] {d : Nat} {x y : Operand} {t ty : TypeId} {pos : String} {af : Array Edge} {gd : Option (Nat × Bool)} {e by' c : Nat} {k : Ek α} {z : α} {zv : Value}
    (ho : ops[i]? = some ⟨some d, .makeSlice t x y, ty, pos, af, gd⟩) (hdn : Nat.blt d n = true) (hg : wantG ops l ⟨some d, .makeSlice t x y, ty, pos, af, gd⟩ = some true)
    (ht : P.underlying t = some (.slice e)) (he : elemTab P e = some (k.sz, by')) (hz : (P.info? e).bind (·.zero) = some zv) (hzc : zv.cells = (k.enc z).toArray)
    (hx : Ev n l true x (.int .i64 c)) (hy : Ev n l true y (.int .i64 c)) (hb : by' * c ≤ 281474976710656 ∧ c * k.sz ≤ 16777216)
    (h : ∀ v', Cl w0 S (rowE k e v' (List.replicate c z) :: N) H C ∧ At w0 n S ((d, true, v') :: l) (rowE k e v' (List.replicate c z) :: N) H (wpSch P ops C K r)) : At w0 n S l N H (wpSch P ops C K ((false, i) :: r)) :=
  At.eW (d := some d) ho hg fun a w ha hw => by
    obtain ⟨inf, z0, h2, h3, h4, h5, h6, h7⟩ := elemTab_info he
    rw [h2] at hz
    have hzz : z0 = zv := by simpa [h3] using hz
    subst hzz
    have hm : c ≤ maxLen := by
      have : c * 1 ≤ c * k.sz := Nat.mul_le_mul_left _ h7
      simp only [maxLen]; omega
    obtain ⟨w', hrun, ho', hgr⟩ := run_makeSlice_full (P := P) w 0 t e inf z0 k.sz ht h2 h3 h4 .i64 .i64 c hb.2 (by rw [h5]; exact hb.1) hm (Nat.zero_le _)
    unfold Oper.wp
    have hrun' : (execOp a.eval ⟨some d, .makeSlice t x y, ty, pos, af, gd⟩).run P w = .ok (.value (.slice (some ⟨w.heap.size, 0, none⟩) c c)) w' := by
      simp [execOp, hx rfl a ha, hy rfl a ha, hrun]
    rw [hrun', Oper.upon_value]
    rw [k.made z hzc h7 c] at ho'
    have hrow : (rowE k e (.slice (some ⟨w.heap.size, 0, none⟩) c c) (List.replicate c z)).holds w' := by
      show w'.ownsRow 0 e k.sz _ (List.replicate c z).length _
      rw [List.length_replicate]; exact ho'
    have := hw.addN (w' := w') (e' := rowE k e (.slice (some ⟨w.heap.size, 0, none⟩) c c) (List.replicate c z)) (fun b hb' => by simp [Ent.key, Value.ownBlock] at hb'; omega) hrow hgr.os hgr.tape hgr.output hgr.size (fun b hb' => hgr.block b hb' (by simp))
    exact ⟨(h _).1 _ this, (h _).2 _ _ (ha.put (by simpa using hdn) rfl) this⟩
end
theorem cells_one {v : Value} (h : v.oneCell' = true) : v.cells = #[v] := by cases v <;> first | rfl | cases h
section
set_option linter.unusedSectionVars false
variable [Inhabited α] {P : Program} {w0 : World} {n : Nat} {S N H : Hp} {l : Fr} {X : Act → World → Prop} {k : Ek α} {E : TypeId} {gs : List (SV × List α)}
theorem gE_mem' {β : Type} [Inhabited β] {l : List β} {j : Int} (h : 0 ≤ j ∧ j < l.length) : gE l j ∈ l := by
  unfold gE; rw [List.getD_eq_getElem?_getD, List.getElem?_eq_getElem (by omega)]; exact List.getElem_mem _
theorem segS {j : Int} (hs : (seg k E gs).Sublist N) (hj : 0 ≤ j ∧ j < gs.length) : RdIn (fun w => St w0 w S N H) (gE gs j).1.1 k.sz (gE gs j).2.length (k.all (gE gs j).2) :=
  wS (E := E) (List.mem_append_right _ (List.mem_append_left _ (hs.subset (List.mem_map.2 ⟨gE gs j, gE_mem' hj, rfl⟩))))
theorem segGet {j : Int} (hj : 0 ≤ j ∧ j < gs.length) : (sK.all (gs.map (·.1)))[j.toNat * 1]? = some (gE gs j).1.1 := by
  have h := Ek.get0 (k := sK) (l := gs.map (·.1)) (j := j) (u := (gE (gs.map fun x : SV × List α => x.1) j).1) rfl (by simpa using hj)
  rw [gE_map (fun x : SV × List α => x.1) rfl] at h
  exact h
theorem At.segIn {A : Hp} {i : Nat} {v : SV} {xs : List α} (hi : i < gs.length) (h : At w0 n S l (A ++ seg k E (gs.set i (v, xs))) H X) : At w0 n S l (rowE k E v.1 xs :: (A ++ seg k E gs)) H X := by
  refine At.fewer (N1 := rowE k E v.1 xs :: (A ++ seg k E (gs.eraseIdx i))) ?_ ?_ h
  · exact List.Sublist.cons_cons _ ((List.Sublist.refl A).append ((List.eraseIdx_sublist gs i).map _))
  · have := (perm_set gs i (v, xs) hi).map (fun x => rowE k E x.1.1 x.2)
    exact (List.perm_middle.symm).trans (this.append_left A)
theorem At.segNew {A : Hp} {v : SV} {xs : List α} (h : At w0 n S l (A ++ seg k E (gs ++ [(v, xs)])) H X) : At w0 n S l (rowE k E v.1 xs :: (A ++ seg k E gs)) H X := by
  refine At.perm ?_ h
  have : (rowE k E v.1 xs :: seg k E gs).Perm (seg k E (gs ++ [(v, xs)])) := by
    simp only [seg, List.map_append, List.map_cons, List.map_nil]; exact (List.perm_append_singleton _ _).symm
  exact (List.perm_middle.symm).trans (this.append_left A)
end
section
set_option linter.unusedSectionVars false
variable [Inhabited α] {P : Program} {w0 : World} {n : Nat} {S N H : Hp} {l : Fr} {ops : Array Oper} {C : World → Prop} {K : Act → World → Prop} {r : List (Bool × Nat)} {i : Nat}
theorem At.stSeg {p x : Operand} {T ty : TypeId} {pos : String} {af : Array Edge} {gd : Option (Nat × Bool)} {Eo : TypeId} {g cap : Nat} {j : Int} {gs : List (SV × List α)} {xs : List α} {v' : Value} {N' : Hp} (ho : ops[i]? = some ⟨none, .store T p x, ty, pos, af, gd⟩)
    (hg : wantG ops l ⟨none, .store T p x, ty, pos, af, gd⟩ = some true) (hs : (P.info? T).map (·.size) = some 1) (hp0 : Ev n l true p (elemPtr (.slice (some ⟨g, 0, none⟩) (gs.map (·.1)).length cap) (j.toNat * 1))) (hx : Ev n l true x v') (h1 : v'.oneCell' = true)
    (hj : 0 ≤ j ∧ j < gs.length)
    (hu : UpL N (rowE sK Eo (.slice (some ⟨g, 0, none⟩) (gs.map (·.1)).length cap) (gs.map (·.1))) (rowE sK Eo (.slice (some ⟨g, 0, none⟩) (gs.map (·.1)).length cap) ((gs.set j.toNat (⟨v', h1⟩, xs)).map (·.1))) N')
    (h : Cl w0 S N' H C ∧ At w0 n S l N' H (wpSch P ops C K r)) : At w0 n S l N H (wpSch P ops C K ((false, i) :: r)) := by
  have e : (rowE sK Eo (.slice (some ⟨g, 0, none⟩) (gs.map (·.1)).length cap) ((gs.set j.toNat (⟨v', h1⟩, xs)).map (·.1))) = .row (.slice (some ⟨g, 0, none⟩) (gs.map (·.1)).length cap) Eo 1 (gs.map (·.1)).length (sK.all ((gs.map (·.1)).set j.toNat ⟨v', h1⟩)) := by
    rw [rowE, List.map_set, List.length_set]
  rw [e] at hu
  exact At.stRow (k := sK) (xs := gs.map (·.1)) (y := ⟨v', h1⟩) ho hg hs hp0 hx (cells_one h1) (.n hu) rfl (by simpa using hj) h
end
theorem Rds.ofNest {C : World → Prop} {k : Ek α} {gs : List (Value × List α)} {V : Value} (h0 : RdIn C V 1 gs.length (gs.map (·.1))) (h : ∀ x ∈ gs, RdIn C x.1 k.sz x.2.length (k.all x.2)) : Rds C (nest k V gs) := by
  refine Rds.cons h0 ?_
  clear h0
  induction gs with
  | nil => exact .nil
  | cons x gs ih => exact Rds.cons (h x (by simp)) (ih fun y hy => h y (by simp [hy]))
abbrev asN (gs : List (SV × List α)) : List (Value × List α) := gs.map fun x => (x.1.1, x.2)
theorem asN_fst (gs : List (SV × List α)) : (asN gs).map (·.1) = sK.all (gs.map (·.1)) := by
  induction gs with
  | nil => rfl
  | cons x gs ih => rw [List.map_cons, Ek.all_cons, ← ih]; rfl
theorem Rds.ofSeg {C : World → Prop} {k : Ek α} {Eo E : TypeId} {gs : List (SV × List α)} {V : Value} (h0 : RdIn C V 1 (gs.map (·.1)).length (sK.all (gs.map (·.1)))) (h : ∀ x ∈ gs, RdIn C x.1.1 k.sz x.2.length (k.all x.2)) : Rds C (nest k V (asN gs)) := by
  refine Rds.ofNest ?_ ?_
  · rw [asN_fst, List.length_map]; rwa [List.length_map] at h0
  · intro x hx
    obtain ⟨y, hy, rfl⟩ := List.mem_map.1 hx
    exact h y hy
end Go.Proofs.YtbolanigdkgbdaaGreat
namespace Go.Proofs.YtbolanigdkgbdaaGreat
open Go Go.RowKit
set_option linter.unusedSectionVars false
variable [Df]
set_option linter.unusedVariables false
inductive Br where
  | done
  | two (i j : Nat) (l1 : List (Bool × Nat)) (b1 : Br) (l2 : List (Bool × Nat)) (b2 : Br)
  | three (i j k : Nat) (l1 : List (Bool × Nat)) (b1 : Br) (l2 : List (Bool × Nat)) (b2 : Br) (l3 : List (Bool × Nat)) (b3 : Br)
def wpBr (P : Program) (ops : Array Oper) (C : World → Prop) (K : Act → World → Prop) : Br → Act → World → Prop
  | .done => K
  | .two i j l1 b1 l2 b2 => fun a w => wpSch P ops C (wpBr P ops C K b1) ((false, i) :: l1) a w ∧ wpSch P ops C (wpBr P ops C K b2) ((false, j) :: l2) a w
  | .three i j k l1 b1 l2 b2 l3 b3 => fun a w => wpSch P ops C (wpBr P ops C K b1) ((false, i) :: l1) a w ∧ wpSch P ops C (wpBr P ops C K b2) ((false, j) :: l2) a w ∧ wpSch P ops C (wpBr P ops C K b3) ((false, k) :: l3) a w
def brLen : Br → Nat → Bool
  | .done, n => n == 0
  | .two _ _ l1 b1 l2 b2, n => Nat.ble (l1.length + 1) n && Nat.ble (l2.length + 1) n && brLen b1 (n - (l1.length + 1)) && brLen b2 (n - (l2.length + 1))
  | .three _ _ _ l1 b1 l2 b2 l3 b3, n => Nat.ble (l1.length + 1) n && Nat.ble (l2.length + 1) n && Nat.ble (l3.length + 1) n && brLen b1 (n - (l1.length + 1)) && brLen b2 (n - (l2.length + 1)) && brLen b3 (n - (l3.length + 1))
def thenB (md : Region.Mode) (ops : Array Oper) (l : List (Bool × Nat)) (f : Array Bool → Bool) (listed : Array Bool) : Bool := match schTo md ops l listed with
  | some x => f x
  | none => false
def brOk (md : Region.Mode) (ops : Array Oper) : Br → Array Bool → Bool
  | .done, listed => (Region.ready md ops listed).isEmpty
  | .two i j l1 b1 l2 b2, listed => (Region.ready md ops listed == [i, j]) && thenB md ops l1 (brOk md ops b1) (listed.setIfInBounds i true) && thenB md ops l2 (brOk md ops b2) (listed.setIfInBounds j true)
  | .three i j k l1 b1 l2 b2 l3 b3, listed => (Region.ready md ops listed == [i, j, k]) && thenB md ops l1 (brOk md ops b1) (listed.setIfInBounds i true) && thenB md ops l2 (brOk md ops b2) (listed.setIfInBounds j true) && thenB md ops l3 (brOk md ops b3) (listed.setIfInBounds k true)
section
variable {P : Program} {ops : Array Oper} {C : World → Prop} {md : Region.Mode} {KK : Act → World → Prop}
theorem thenB_some {l : List (Bool × Nat)} {f : Array Bool → Bool} {listed : Array Bool} (h : thenB md ops l f listed = true) : ∃ x, schTo md ops l listed = some x ∧ f x = true := by
  unfold thenB at h
  split at h
  · rename_i x hx; exact ⟨x, hx, h⟩
  · cases h
theorem wpBr_to (hs : Region.noSelect ops = true) : ∀ (b : Br) (n : Nat) (listed : Array Bool) (a : Act) (w : World), C w → brLen b n = true → brOk md ops b listed = true → wpBr P ops C KK b a w → wpAnyH P md ops (NoQ KK) C n listed a w
  | .done, n, listed, a, w, hC, hn, hk, h => by
    have : n = 0 := by simpa [brLen] using hn
    subst this
    exact wpAnyH_done (by simpa [brOk] using hk) h 0
  | .two i j l1 b1 l2 b2, n, listed, a, w, hC, hn, hk, h => by
    simp only [brLen, Bool.and_eq_true, Nat.ble_eq] at hn
    simp only [brOk, Bool.and_eq_true, beq_iff_eq] at hk
    obtain ⟨⟨⟨n1, n2⟩, n3⟩, n4⟩ := hn
    obtain ⟨⟨k0, k1⟩, k2⟩ := hk
    obtain ⟨x1, s1, t1⟩ := thenB_some k1
    obtain ⟨x2, s2, t2⟩ := thenB_some k2
    obtain ⟨m, rfl⟩ : ∃ m, n = m + 1 := ⟨n - 1, by omega⟩
    refine wpAnyH_all k0 (by simp) fun q hq => ?_
    have hq' : q = i ∨ q = j := by simpa using hq
    rcases hq' with rfl | rfl
    · refine wpOp_mono (fun a' w' h' => ⟨h'.1, ?_⟩) (wpOp_QF h.1)
      have := wpSch_to (md := md) hs (m - l1.length) x1 (fun a w hC hh => wpBr_to hs b1 _ x1 a w hC (by have e : m - l1.length = m + 1 - (l1.length + 1) := by omega
                                                                                                        rw [e]; exact n3) t1 hh) l1 _ a' w' h'.1 s1 h'.2
      rwa [show m - l1.length + l1.length = m from by omega] at this
    · refine wpOp_mono (fun a' w' h' => ⟨h'.1, ?_⟩) (wpOp_QF h.2)
      have := wpSch_to (md := md) hs (m - l2.length) x2 (fun a w hC hh => wpBr_to hs b2 _ x2 a w hC (by have e : m - l2.length = m + 1 - (l2.length + 1) := by omega
                                                                                                        rw [e]; exact n4) t2 hh) l2 _ a' w' h'.1 s2 h'.2
      rwa [show m - l2.length + l2.length = m from by omega] at this
  | .three i j k l1 b1 l2 b2 l3 b3, n, listed, a, w, hC, hn, hk, h => by
    simp only [brLen, Bool.and_eq_true, Nat.ble_eq] at hn
    simp only [brOk, Bool.and_eq_true, beq_iff_eq] at hk
    obtain ⟨⟨⟨⟨⟨n1, n2⟩, n3⟩, n4⟩, n5⟩, n6⟩ := hn
    obtain ⟨⟨⟨k0, k1⟩, k2⟩, k3⟩ := hk
    obtain ⟨x1, s1, t1⟩ := thenB_some k1
    obtain ⟨x2, s2, t2⟩ := thenB_some k2
    obtain ⟨x3, s3, t3⟩ := thenB_some k3
    obtain ⟨m, rfl⟩ : ∃ m, n = m + 1 := ⟨n - 1, by omega⟩
    refine wpAnyH_all k0 (by simp) fun q hq => ?_
    have hq' : q = i ∨ q = j ∨ q = k := by simpa using hq
    rcases hq' with rfl | rfl | rfl
    · refine wpOp_mono (fun a' w' h' => ⟨h'.1, ?_⟩) (wpOp_QF h.1)
      have := wpSch_to (md := md) hs (m - l1.length) x1 (fun a w hC hh => wpBr_to hs b1 _ x1 a w hC (by have e : m - l1.length = m + 1 - (l1.length + 1) := by omega
                                                                                                        rw [e]; exact n4) t1 hh) l1 _ a' w' h'.1 s1 h'.2
      rwa [show m - l1.length + l1.length = m from by omega] at this
    · refine wpOp_mono (fun a' w' h' => ⟨h'.1, ?_⟩) (wpOp_QF h.2.1)
      have := wpSch_to (md := md) hs (m - l2.length) x2 (fun a w hC hh => wpBr_to hs b2 _ x2 a w hC (by have e : m - l2.length = m + 1 - (l2.length + 1) := by omega
                                                                                                        rw [e]; exact n5) t2 hh) l2 _ a' w' h'.1 s2 h'.2
      rwa [show m - l2.length + l2.length = m from by omega] at this
    · refine wpOp_mono (fun a' w' h' => ⟨h'.1, ?_⟩) (wpOp_QF h.2.2)
      have := wpSch_to (md := md) hs (m - l3.length) x3 (fun a w hC hh => wpBr_to hs b3 _ x3 a w hC (by have e : m - l3.length = m + 1 - (l3.length + 1) := by omega
                                                                                                        rw [e]; exact n6) t3 hh) l3 _ a' w' h'.1 s3 h'.2
      rwa [show m - l3.length + l3.length = m from by omega] at this
end
section
variable {P : Program} {w0 : World} {n : Nat} {S N H : Hp} {l : Fr} {ops : Array Oper} {X : Act → World → Prop} {C : World → Prop}
theorem At.drawB {id : Nat} {Q : Exit → Act → World → Prop} (pre : List (Bool × Nat)) (b : Br) (hm : P.follows .mixedOrders = true)
    (hk : (Region.noSelect ops && Nat.ble pre.length ops.size && brLen b (ops.size - pre.length) && thenB .any ops pre (brOk .any ops b) (Array.replicate ops.size false)) = true)
    (h : At w0 n S l N H (wpSch P ops (Kept (S ++ (N ++ H))) (wpBr P ops (Kept (S ++ (N ++ H))) (Q .normal) b) pre)) :
    At w0 n S l N H ((Code.region id ops true).wp P Q) := fun a w ha hw => by
  simp only [Bool.and_eq_true, Nat.ble_eq] at hk
  obtain ⟨⟨⟨h1, h2⟩, h3⟩, h4⟩ := hk
  refine Code.wp_mono (noQ_imp fun _ _ h => h) (wp_region_held (S := Kept (S ++ (N ++ H))) hm ?_)
  obtain ⟨x, s1, t1⟩ := thenB_some h4
  have := wpSch_to (P := P) (md := .any) h1 (ops.size - pre.length) x (fun a w hC hh => wpBr_to h1 b _ x a w hC h3 t1 hh) pre _ a w.drew (cl_here hw.drew ha) s1 (h a w.drew ha hw.drew)
  rwa [show ops.size - pre.length + pre.length = ops.size from by omega] at this
theorem At.joinB {β : Type} {b : Br} (L : β → Fr) (NN : β → Hp) (hK : ∀ x, At w0 n S (L x) (NN x) H X)
    (h : (∀ x (l' : Fr) (N' : Hp), (∀ t v, look (L x) t = some v → look l' t = some v) → (NN x).Sublist N' → At w0 n S l' N' H X) → At w0 n S l N H (wpBr P ops C X b)) : At w0 n S l N H (wpBr P ops C X b) :=
  h fun x _ _ hl hN => At.weak hl hN (hK x)
theorem At.two {i j : Nat} {l1 l2 : List (Bool × Nat)} {b1 b2 : Br} (h1 : At w0 n S l N H (wpSch P ops C (wpBr P ops C X b1) ((false, i) :: l1))) (h2 : At w0 n S l N H (wpSch P ops C (wpBr P ops C X b2) ((false, j) :: l2))) :
    At w0 n S l N H (wpBr P ops C X (.two i j l1 b1 l2 b2)) := At.both h1 h2
theorem At.three {i j k : Nat} {l1 l2 l3 : List (Bool × Nat)} {b1 b2 b3 : Br} (h1 : At w0 n S l N H (wpSch P ops C (wpBr P ops C X b1) ((false, i) :: l1))) (h2 : At w0 n S l N H (wpSch P ops C (wpBr P ops C X b2) ((false, j) :: l2)))
    (h3 : At w0 n S l N H (wpSch P ops C (wpBr P ops C X b3) ((false, k) :: l3))) : At w0 n S l N H (wpBr P ops C X (.three i j k l1 b1 l2 b2 l3 b3)) := At.both h1 (At.both h2 h3)
theorem At.brDone (h : At w0 n S l N H X) : At w0 n S l N H (wpBr P ops C X .done) := h
end
structure Chk where
  a0 : Int
  a1 : Int
  a2 : Int
  a3 : Int
  a4 : Int
  a5 : Int
  a6 : Int
  a7 : Int
  u : SV
instance : Inhabited Chk := ⟨⟨0, 0, 0, 0, 0, 0, 0, 0, ⟨.slice none 0 0, rfl⟩⟩⟩
abbrev chK : Ek Chk := ⟨fun x => [.int .i64 x.a0, .int .i64 x.a1, .int .i64 x.a2, .int .i64 x.a3, .int .i64 x.a4, .int .i64 x.a5, .int .i64 x.a6, .int .i64 x.a7, x.u.1], 9, fun _ => rfl, fun x v hv => by
  simp at hv; rcases hv with rfl | rfl | rfl | rfl | rfl | rfl | rfl | rfl | rfl
  all_goals first | rfl | exact x.u.2⟩
abbrev csg (E : TypeId) (cs : List (Chk × List Cel)) : Hp := cs.map fun x => rowE cellK E x.1.u.1 x.2
section
variable {w0 : World} {n : Nat} {S N H : Hp} {l : Fr} {X : Act → World → Prop} {E : TypeId} {cs : List (Chk × List Cel)}
theorem At.csNew {A : Hp} {x : Chk} {ys : List Cel} (h : At w0 n S l (A ++ csg E (cs ++ [(x, ys)])) H X) : At w0 n S l (rowE cellK E x.u.1 ys :: (A ++ csg E cs)) H X := by
  refine At.perm ?_ h
  have : (rowE cellK E x.u.1 ys :: csg E cs).Perm (csg E (cs ++ [(x, ys)])) := by
    simp only [csg, List.map_append, List.map_cons, List.map_nil]; exact (List.perm_append_singleton _ _).symm
  exact (List.perm_middle.symm).trans (this.append_left A)
end
theorem hone9 {a0 a1 a2 a3 a4 a5 a6 a7 : Int} {v : Value} (h : v.oneCell' = true) : (([.int .i64 a0, .int .i64 a1, .int .i64 a2, .int .i64 a3, .int .i64 a4, .int .i64 a5, .int .i64 a6, .int .i64 a7, v] : List Value).all fun v => v.oneCell') = true := by
  simp only [List.all_cons, List.all_nil, h]; rfl
theorem setL_all : ∀ (vs pre cs : List Value), vs.length = cs.length → setL (pre ++ cs) pre.length vs = pre ++ vs
  | [], pre, cs, h => by
    have : cs = [] := List.eq_nil_of_length_eq_zero h.symm
    subst this; rfl
  | v :: vs, pre, [], h => by simp at h
  | v :: vs, pre, c :: cs, h => by
    have e : (pre ++ c :: cs).set pre.length v = (pre ++ [v]) ++ cs := by simp
    have := setL_all vs (pre ++ [v]) cs (by simpa using h)
    rw [setL, e]
    simpa using this
theorem At.stAll {P : Program} {w0 : World} {n : Nat} {S N H : Hp} {l : Fr} {ops : Array Oper} {C : World → Prop} {K : Act → World → Prop} {r : List (Bool × Nat)} {i : Nat} {p x : Operand} {T ty : TypeId} {pos : String} {af : Array Edge} {gd : Option (Nat × Bool)} {b m : Nat} {vs : List Value} {cs : Array Value} {E : TypeId} {N' H' : Hp} (ho : ops[i]? = some ⟨none, .store T p x, ty, pos, af, gd⟩)
    (hg : wantG ops l ⟨none, .store T p x, ty, pos, af, gd⟩ = some true) (hs : (P.info? T).map (·.size) = some m) (hp : Ev n l true p (.pointer (some ⟨b, 0, none⟩))) (hx : Ev n l true x (.agg vs.toArray)) (hone : (vs.all fun v => v.oneCell') = true) (hj : Nat.beq m cs.size = true) (hj2 : vs.length = m)
    (hu : Up N H (.blk b (.cells cs E (0, 0))) (.blk b (.cells vs.toArray E (0, 0))) N' H')
    (h : Cl w0 S N' H' C ∧ At w0 n S l N' H' (wpSch P ops C K r)) : At w0 n S l N H (wpSch P ops C K ((false, i) :: r)) := by
  have hm : m = cs.size := Nat.eq_of_beq_eq_true hj
  have e : setFrom cs 0 vs = vs.toArray := by
    apply Array.toList_inj.1
    rw [setFrom_toList]
    have := setL_all vs [] cs.toList (by simp; omega)
    simpa using this
  rw [← e] at hu
  exact At.stN ho hg hs hp hx hone (by simp; omega) hj2 hu h
end Go.Proofs.YtbolanigdkgbdaaGreat
namespace Go.Proofs.YtbolanigdkgbdaaGreat
open Go Go.RowKit
set_option linter.unusedSectionVars false
variable [Df]
set_option linter.unusedVariables false
inductive UpsL : Hp → Hp → Hp → Hp → Prop
  | nil {l : Hp} : UpsL l [] [] l
  | take {l A B l' : Hp} {a b : Ent} : UpsL l A B l' → UpsL (a :: l) (a :: A) (b :: B) (b :: l')
  | skip {l A B l' : Hp} {x : Ent} : UpsL l A B l' → UpsL (x :: l) A B (x :: l')
theorem UpsL.form {l A B l' : Hp} (h : UpsL l A B l') : ∃ R, l.Perm (A ++ R) ∧ l'.Perm (B ++ R) := by
  induction h with
  | nil => exact ⟨_, .refl _, .refl _⟩
  | take _ ih => obtain ⟨R, h1, h2⟩ := ih; exact ⟨R, h1.cons _, h2.cons _⟩
  | @skip _ _ _ _ x _ ih => obtain ⟨R, h1, h2⟩ := ih; exact ⟨x :: R, (h1.cons x).trans List.perm_middle.symm, (h2.cons x).trans List.perm_middle.symm⟩
inductive Ups : Hp → Hp → Hp → Hp → Hp → Hp → Prop
  | n {N H A B N' : Hp} : UpsL N A B N' → Ups N H A B N' H
  | h {N H A B H' : Hp} : UpsL H A B H' → Ups N H A B N H'
section
variable {w0 w w' : World} {S S' N H N1 H1 N' A B R : Hp}
theorem keys_perm {a b : Hp} (h : a.Perm b) : (keys a).Perm (keys b) := h.filterMap _
theorem St.callMid (h : St w0 w S N H) {T : Hp} (hp : (N ++ H).Perm (A ++ R)) (hT : (N' ++ T).Perm (N' ++ (B ++ R))) (hk : keys B = keys A) (h' : @St noDf w w' S' N' B) :
    (∀ e ∈ N' ++ T, e.holds w') ∧ (∀ e ∈ S, e.holds w') ∧ (keys (N' ++ T)).Nodup ∧ (∀ k ∈ keys S, k ∉ keys (N' ++ T)) ∧ (∀ k, k < w.heap.size → k ∉ keys A → w'.heap[k]? = w.heap[k]?) ∧ (∀ k ∈ keys N', w.heap.size ≤ k) := by
  have hold : ∀ k, k < w.heap.size → k ∉ keys A → w'.heap[k]? = w.heap[k]? := fun k hk1 hk2 => h'.old k hk1 (by rw [hk]; exact hk2) noOwN
  have hlt := keys_lt h.has
  have hge : ∀ k ∈ keys N', w.heap.size ≤ k := fun k hk => by
    obtain ⟨x, hx, hxk⟩ := List.mem_filterMap.1 hk
    exact noOw (h'.fresh x hx k hxk)
  have hnd : (keys (A ++ R)).Nodup := (keys_perm hp).nodup_iff.1 h.nodup
  rw [keys_append] at hnd
  have hmem : ∀ k, k ∈ keys (N ++ H) ↔ k ∈ keys A ∨ k ∈ keys R := fun k => by rw [(keys_perm hp).mem_iff, keys_append, List.mem_append]
  have hR : ∀ e ∈ R, e.holds w' := fun e he => by
    have h1 := h.has e (hp.mem_iff.2 (List.mem_append_right _ he))
    refine Ent.keep h1 h'.size fun k hk2 => hold k (Ent.lt h1 hk2) fun hA => ?_
    exact (List.nodup_append.1 hnd).2.2 k hA k (mem_keys he hk2) rfl
  have hB : ∀ e ∈ N' ++ B, e.holds w' := h'.has
  refine ⟨fun e he => ?_, fun e he => ?_, ?_, fun k hkS hm => ?_, hold, hge⟩
  · rcases List.mem_append.1 (hT.mem_iff.1 he) with he | he
    · exact hB e (List.mem_append_left _ he)
    · rcases List.mem_append.1 he with he | he
      · exact hB e (List.mem_append_right _ he)
      · exact hR e he
  · have h1 := h.hasS e he
    refine Ent.keep h1 h'.size fun k hk2 => hold k (Ent.lt h1 hk2) fun hA => ?_
    exact h.apart k (mem_keys he hk2) ((hmem k).2 (.inl hA))
  · refine (keys_perm hT).nodup_iff.2 ?_
    rw [keys_append, keys_append, hk]
    have hN' : (keys N').Nodup := by
      have := h'.nodup
      rw [keys_append] at this
      exact (List.nodup_append.1 this).1
    refine List.nodup_append.2 ⟨hN', hnd, fun a ha b hb => ?_⟩
    have h1 := hge a ha
    have h2 := hlt b ((hmem b).2 (List.mem_append.1 hb))
    omega
  · rw [(keys_perm hT).mem_iff, keys_append, keys_append, hk] at hm
    rcases List.mem_append.1 hm with hm | hm
    · have := hge k hm; have := keys_lt h.hasS k hkS; omega
    · exact h.apart k hkS ((hmem k).2 (List.mem_append.1 hm))
theorem St.callN (h : St w0 w S N H) (hp : N.Perm (A ++ R)) (hp' : N1.Perm (B ++ R)) (hk : keys B = keys A) (h' : @St noDf w w' S' N' B) : St w0 w' S (N' ++ N1) H := by
  have hp2 : (N ++ H).Perm (A ++ (R ++ H)) := by rw [← List.append_assoc]; exact hp.append_right H
  have hT : (N' ++ (N1 ++ H)).Perm (N' ++ (B ++ (R ++ H))) := by rw [← List.append_assoc B]; exact (hp'.append_right H).append_left N'
  obtain ⟨h1, h2, h3, h4, h5, h6⟩ := h.callMid hp2 hT hk h'
  refine ⟨h'.os.trans h.os, h'.tape.trans h.tape, h'.output.trans h.output, Nat.le_trans h.size h'.size, by rw [List.append_assoc]; exact h1, h2, by rw [List.append_assoc]; exact h3, by rw [List.append_assoc]; exact h4, fun e he k hk1 => ?_, fun b hb hn ho => ?_⟩
  · rcases List.mem_append.1 he with he | he
    · exact .inl (Nat.le_trans h.size (noOw (h'.fresh e he k hk1)))
    · have h7 : k ∈ keys N := by
        rw [(keys_perm hp).mem_iff, keys_append, ← hk, ← keys_append, ← (keys_perm hp').mem_iff]
        exact mem_keys he hk1
      obtain ⟨y, hy, hyk⟩ := List.mem_filterMap.1 h7
      exact h.fresh y hy k hyk
  · rw [← h.old b hb hn ho]
    refine h5 b (Nat.lt_of_lt_of_le hb h.size) fun hA => ?_
    have h7 : b ∈ keys N := by rw [(keys_perm hp).mem_iff, keys_append]; exact List.mem_append_left _ hA
    obtain ⟨y, hy, hyk⟩ := List.mem_filterMap.1 h7
    rcases h.fresh y hy b hyk with h1 | h1
    · omega
    · exact ho h1
theorem St.callO (h : St w0 w S N H) (hp : H.Perm (A ++ R)) (hp' : H1.Perm (B ++ R)) (hk : keys B = keys A) (h' : @St noDf w w' S' N' B) : St w0 w' S (N' ++ N) H1 := by
  have hp2 : (N ++ H).Perm (A ++ (R ++ N)) := by rw [← List.append_assoc]; exact List.perm_append_comm.trans (hp.append_right N)
  have hT : (N' ++ (N ++ H1)).Perm (N' ++ (B ++ (R ++ N))) := by rw [← List.append_assoc B]; exact (List.perm_append_comm.trans (hp'.append_right N)).append_left N'
  obtain ⟨h1, h2, h3, h4, h5, h6⟩ := h.callMid hp2 hT hk h'
  refine ⟨h'.os.trans h.os, h'.tape.trans h.tape, h'.output.trans h.output, Nat.le_trans h.size h'.size, by rw [List.append_assoc]; exact h1, h2, by rw [List.append_assoc]; exact h3, by rw [List.append_assoc]; exact h4, fun e he k hk1 => ?_, fun b hb hn ho => ?_⟩
  · rcases List.mem_append.1 he with he | he
    · exact .inl (Nat.le_trans h.size (noOw (h'.fresh e he k hk1)))
    · exact h.fresh e he k hk1
  · have hkk : ∀ k, k ∈ keys H1 ↔ k ∈ keys H := fun k => by rw [(keys_perm hp').mem_iff, (keys_perm hp).mem_iff, keys_append, keys_append, hk]
    have hbH : b ∉ keys H := fun hm => hn ((hkk b).2 hm)
    rw [← h.old b hb hbH ho]
    refine h5 b (Nat.lt_of_lt_of_le hb h.size) fun hA => hbH ?_
    rw [(keys_perm hp).mem_iff, keys_append]; exact List.mem_append_left _ hA
theorem St.callUps (h : St w0 w S N H) (hu : Ups N H A B N1 H1) (hk : keys B = keys A) (h' : @St noDf w w' S' N' B) : St w0 w' S (N' ++ N1) H1 := by
  cases hu with
  | n hl => obtain ⟨R, h1, h2⟩ := hl.form; exact h.callN h1 h2 hk h'
  | h hl => obtain ⟨R, h1, h2⟩ := hl.form; exact h.callO h1 h2 hk h'
theorem Ups.mem (hu : Ups N H A B N1 H1) : ∀ e ∈ A, e ∈ N ++ H := fun e he => by
  cases hu with
  | n hl => obtain ⟨R, h1, _⟩ := hl.form; exact List.mem_append_left _ (h1.mem_iff.2 (List.mem_append_left _ he))
  | h hl => obtain ⟨R, h1, _⟩ := hl.form; exact List.mem_append_right _ (h1.mem_iff.2 (List.mem_append_left _ he))
theorem Ups.nodup (h : St w0 w S N H) (hu : Ups N H A B N1 H1) : (keys A).Nodup := by
  have hn := h.nodup
  rw [keys_append] at hn
  cases hu with
  | n hl => obtain ⟨R, h1, _⟩ := hl.form; have := (keys_perm h1).nodup_iff.1 (List.nodup_append.1 hn).1; rw [keys_append] at this; exact (List.nodup_append.1 this).1
  | h hl => obtain ⟨R, h1, _⟩ := hl.form; have := (keys_perm h1).nodup_iff.1 (List.nodup_append.1 hn).2.1; rw [keys_append] at this; exact (List.nodup_append.1 this).1
end
def Aprt (w0 : World) (S N H S' A : Hp) : Prop := ∀ w, St w0 w S N H → ∀ k ∈ keys S', k ∉ keys A
theorem Aprt.nil {w0 : World} {S N H A : Hp} : Aprt w0 S N H [] A := fun _ _ _ h => (List.not_mem_nil h).elim
theorem Aprt.nh {w0 : World} {S N H S' A : Hp} (h1 : ∀ e ∈ S', e ∈ N) (h2 : ∀ e ∈ A, e ∈ H) : Aprt w0 S N H S' A := fun w hw k hk hA => by
  obtain ⟨x, hx, hxk⟩ := List.mem_filterMap.1 hk
  obtain ⟨y, hy, hyk⟩ := List.mem_filterMap.1 hA
  have hn := hw.nodup
  rw [keys_append] at hn
  exact (List.nodup_append.1 hn).2.2 k (mem_keys (h1 x hx) hxk) k (mem_keys (h2 y hy) hyk) rfl
theorem Aprt.sub' {w0 : World} {S N H S' A : Hp} (h1 : (A ++ S').Sublist (N ++ H)) : Aprt w0 S N H S' A := fun w hw k hk hA => by
  have hn := (h1.filterMap Ent.key).nodup hw.nodup
  rw [List.filterMap_append] at hn
  exact (List.nodup_append.1 hn).2.2 k hA k hk rfl
@[reducible] def putO (d : Option Nat) (x : Value) (l : Fr) : Fr := match d with
  | none => l
  | some d => (d, true, x) :: l
def IsM (x : Value) (B : Hp) : Value → Hp → Hp → Prop := fun v N H => v = x ∧ N = [] ∧ H = B
section
variable {P : Program} {w0 : World} {n : Nat} {S N H : Hp} {l : Fr} {ops : Array Oper} {C : World → Prop} {K : Act → World → Prop} {r : List (Bool × Nat)} {i : Nat}
theorem At.callM {d : Option Nat} {fx : Operand} {xs : List Operand} {ats : Array TypeId} {ty : TypeId} {pos : String} {af : Array Edge} {gd : Option (Nat × Bool)} {f : FuncId} {fst cap : List Value} {vs args : List Value} {S' A B N1 H1 : Hp} {x : Value}
    (ho : ops[i]? = some ⟨d, .call { callee := .value fx, args := xs.toArray, argTypes := ats }, ty, pos, af, gd⟩) (hdn : (match d with | none => true | some d => Nat.blt d n) = true) (hg : wantG ops l ⟨d, .call { callee := .value fx, args := xs.toArray, argTypes := ats }, ty, pos, af, gd⟩ = some true)
    (hf : Ev n l true fx (.func (.func f) fst.toArray cap.toArray)) (hxs : Evs n l true xs vs) (hargs : fst ++ vs ++ cap = args) (hu : Ups N H A B N1 H1) (hS : Rds (fun w => St w0 w S N H) S') (hc : Fn P f args S' A (IsM x B)) (hk : keys B = keys A) (hSe : Aprt w0 S N H S' A)
    (h : Cl w0 S N1 H1 C ∧ At w0 n S (putO d x l) N1 H1 (wpSch P ops C K r)) : At w0 n S l N H (wpSch P ops C K ((false, i) :: r)) :=
  At.eW (d := d) ho hg fun a w ha hw => by
    unfold Oper.wp
    rw [run_call rfl ha hf hxs hc.1, Oper.upon_enter]
    have e1 : fst.toArray ++ vs.toArray ++ cap.toArray = args.toArray := by rw [← hargs]; simp
    rw [e1]
    have hw' : @St noDf w w S' [] A := St.refl0 (fun e he => hw.has e (hu.mem e he)) (fun x hx => hS.all x hx w hw) (hu.nodup hw) (hSe w hw)
    refine (hc.2 w hw').mono ?_
    rintro e0 w' ⟨v, N', H', hR, rfl, hst⟩
    obtain ⟨rfl, rfl, rfl⟩ := hR
    have := hw.callUps hu hk hst
    simp only [List.nil_append] at this
    refine ⟨h.1 w' this, h.2 _ w' ?_ this⟩
    cases d with
    | none => exact ha
    | some d => exact ha.put (by simpa using hdn) rfl
end
section
variable {P : Program} {w0 : World} {n : Nat} {S N H : Hp} {l : Fr} {ops : Array Oper}
theorem At.drawM {id : Nat} {Q : Exit → Act → World → Prop} (L1 L2 : Hp) (s0 s1 s2 : List (Bool × Nat)) (h01 : ∀ e ∈ L1, e ∈ S ++ (N ++ H)) (h12 : ∀ e ∈ L2, e ∈ L1) (hm : P.follows .mixedOrders = true) (hk : (Region.noSelect ops && (s2.length + s1.length + s0.length == ops.size) && schOkL .any ops s0 s1 s2 (Array.replicate ops.size false)) = true)
    (h : At w0 n S l N H (wpSch P ops (Kept L2) (fun a w => Kept L1 w ∧ wpSch P ops (Kept L1) (fun a w => Kept L2 w ∧ wpSch P ops (Kept L2) (Q .normal) s2 a w) s1 a w) s0)) : At w0 n S l N H ((Code.region id ops true).wp P Q) := fun a w ha hw => by
  simp only [Bool.and_eq_true] at hk
  exact wp_region_schL s0 s1 s2 (fun w hw e he => hw e (h12 e he)) hm hk.1.1 (by simpa using hk.1.2) hk.2 (h a w.drew ha hw.drew)
end
end Go.Proofs.YtbolanigdkgbdaaGreat
namespace Go.Proofs.YtbolanigdkgbdaaGreat
open Go Go.RowKit
set_option linter.unusedSectionVars false
variable [Df]
open Go.ChangeMaps (setBlock)
set_option linter.unusedVariables false
section
variable {κ α : Type} [DecidableEq κ]
variable {P : Program} {n : Nat} {l : Fr} {C : World → Prop}
theorem R.lookup2 {g : Bool} {d : Option Tmp} {T kt et ty : TypeId} {pos : String} {af : Array Edge} {gd : Option (Nat × Bool)} {m x : Operand} {kf : κ → Value} {vf : α → Value} {b : Nat} {ml : List (κ × α)} {k : κ} {z : Value} (hT : P.underlying T = some (.map kt et)) (hk : KeyOk P kt kf) (hz : (P.info? et).bind (·.zero) = some z)
    (hm : Ev n l g m (.map (some b))) (hx : Ev n l g x (kf k)) (hE : ∀ w, C w → (mapE kf vf b ml).holds w) : RunsC P n l C g ⟨d, .lookup T m x true, ty, pos, af, gd⟩ (.tuple #[agetV vf z ml k, .bool (aget ml k).isSome]) := fun hg a w ha hw => by
  have hb : w.heap[b]? = some (.map (mEs kf vf 0 ml).toArray ml.length) := hE w hw
  have hf := hk.find _ vf k ml w
  have hzv : (zeroValue et).run P w = .ok z w := by
    cases hi : P.info? et with
    | none => rw [hi] at hz; cases hz
    | some inf => rw [hi] at hz; simp at hz; simp [zeroValue, typeInfo, hi, hz]
  unfold agetV aget
  cases hi : aidx ml k 0 with
  | none =>
    rw [hi] at hf
    simp only [Option.map_none] at hf
    simp [execOp, hm.eq hg ha, hx.eq hg ha, Instr.lookup, run_underlying hT, MapKept.run_getObj_map hb, hk.chk, hf, hzv]
  | some jv =>
    rw [hi] at hf
    simp only [Option.map_some] at hf
    simp [execOp, hm.eq hg ha, hx.eq hg ha, Instr.lookup, run_underlying hT, MapKept.run_getObj_map hb, hk.chk, hf]
theorem R.eqlNilP {g : Bool} {d : Option Tmp} {x : Operand} {T U ty : TypeId} {pos : String} {af : Array Edge} {gd : Option (Nat × Bool)} {p : Option Addr} (hT : P.underlying T = some (.pointer (P.pointee T))) (hx : Ev n l g x (.pointer p)) :
    RunsC P n l C g ⟨d, .binOp .eql T x (.const (.pointer none)) U, ty, pos, af, gd⟩ (.bool p.isNone) := fun hg a w ha _ => by
  have e : a.eval (.const (.pointer none)) = .pointer none := rfl
  have h1 : (eqGuard .eql T x (.const (.pointer none)) (.pointer p) (.pointer none)) = pure () := rfl
  have h2 := run_eql_pointer_nil (P := P) w T p hT
  simp [execOp, hx.eq hg ha, e, h1, h2]
theorem R.neqNilI {g : Bool} {d : Option Tmp} {x : Operand} {T U ty : TypeId} {pos : String} {af : Array Edge} {gd : Option (Nat × Bool)} (hT : P.underlying T = some (.interface (P.methodsAt T))) (hx : Ev n l g x .nilIface) :
    RunsC P n l C g ⟨d, .binOp .neq T x (.const .nilIface) U, ty, pos, af, gd⟩ (.bool false) := fun hg a w ha _ => by
  have e : a.eval (.const .nilIface) = .nilIface := rfl
  have h1 : (eqGuard .neq T x (.const .nilIface) .nilIface .nilIface).run P w = .ok () w := by
    simp only [eqGuard]
    cases x <;> simp
  have h2 : (binOp .neq T .nilIface .nilIface).run P w = .ok (.bool false) w := by
    show (do pure (Value.bool (!(← Op.equal T .nilIface .nilIface))) : Sem Value).run P w = _
    simp [run_equal_nil_nil w T hT]
  simp [execOp, hx.eq hg ha, e, h1, h2]
theorem R.indexAgg {g : Bool} {d : Option Tmp} {x y : Operand} {T E len m ty : TypeId} {pos : String} {af : Array Edge} {gd : Option (Nat × Bool)} {k : IntKind} {j : Int} {cs : Array Value} {v : Value} (hT : P.underlying T = some (.array len E)) (hs : (P.info? E).map (·.size) = some m) (hx : Ev n l g x (.agg cs)) (hy : Ev n l g y (.int k j)) (hj : 0 ≤ j ∧ j < len)
    (hv : ∀ w, (part E cs (j.toNat * m)).run P w = .ok v w) : RunsC P n l C g ⟨d, .index T x y, ty, pos, af, gd⟩ v := fun hg a w ha _ => by
  simp [execOp, hx.eq hg ha, hy.eq hg ha, Instr.index, run_underlying hT, asIntOf, run_sizeOf hs, hj.1, hj.2, hv]
end
theorem run_part_arr {P : Program} {E len e m : Nat} {cs : Array Value} {off : Nat} {w : World} (hT : P.underlying E = some (.array len e)) (hs : (P.info? E).map (·.size) = some m) : (part E cs off).run P w = .ok (.agg (cs.extract off (off + m))) w := by
  simp [part, isAgg, run_underlying hT, run_sizeOf hs]
abbrev itE {κ α : Type} (r b : Nat) (ml : List (κ × α)) (seen : List Nat) : Ent := .blk r (.mapIter (some b) ml.length seen.toArray ml.length)
section
variable {κ α : Type}
variable {P : Program} {w0 : World} {n : Nat} {S N H : Hp} {l : Fr} {ops : Array Oper} {C : World → Prop} {K : Act → World → Prop} {r : List (Bool × Nat)} {i : Nat}
theorem mEs_born' (kf : κ → Value) (vf : α → Value) : ∀ (l : List (κ × α)) (b : Nat), (mEs kf vf b l).map (·.born) = List.range' b l.length
  | [], _ => rfl
  | x :: r, b => by simp only [mEs, List.map_cons, List.length_cons, List.range'_succ, mEs_born' kf vf r (b + 1)]
theorem mEs_lt' {kf : κ → Value} {vf : α → Value} {l : List (κ × α)} : ∀ x ∈ (mEs kf vf 0 l).toArray.toList, x.born < l.length := fun x hx => by
  have : x.born ∈ (mEs kf vf 0 l).map (·.born) := List.mem_map.2 ⟨x, by simpa using hx, rfl⟩
  rw [mEs_born'] at this
  have := List.mem_range'_1.1 this
  omega
theorem mEs_nodup {kf : κ → Value} {vf : α → Value} {l : List (κ × α)} : ((mEs kf vf 0 l).toArray.toList.map (·.born)).Nodup := by
  rw [mEs_born']
  exact List.nodup_range'
theorem At.rangeMap {d : Nat} {T kt et ty : TypeId} {pos : String} {af : Array Edge} {gd : Option (Nat × Bool)} {x : Operand} {kf : κ → Value} {vf : α → Value} {b : Nat} {ml : List (κ × α)}
    (ho : ops[i]? = some ⟨some d, .range T x, ty, pos, af, gd⟩) (hdn : Nat.blt d n = true) (hg : wantG ops l ⟨some d, .range T x, ty, pos, af, gd⟩ = some true) (hT : P.underlying T = some (.map kt et)) (hx : Ev n l true x (.map (some b))) (hm : mapE kf vf b ml ∈ S ++ (N ++ H))
    (h : ∀ q, w0.heap.size ≤ q → Cl w0 S (itE q b ml [] :: N) H C ∧ At w0 n S ((d, true, .pointer (some ⟨q, 0, none⟩)) :: l) (itE q b ml [] :: N) H (wpSch P ops C K r)) : At w0 n S l N H (wpSch P ops C K ((false, i) :: r)) :=
  At.eW (d := some d) ho hg fun a w ha hw => by
    have hb : w.heap[b]? = some (.map (mEs kf vf 0 ml).toArray ml.length) := Holds.st hm w hw
    unfold Oper.wp
    have hrun : (execOp a.eval ⟨some d, .range T x, ty, pos, af, gd⟩).run P w = .ok (.value (.pointer (some ⟨w.heap.size, 0, none⟩))) (w.alloc (.mapIter (some b) ml.length #[] ml.length)) := by
      simp [execOp, hx rfl a ha, run_range_map w T kt et b _ _ hT hb]
    rw [hrun, Oper.upon_value]
    have := hw.alloc (.mapIter (some b) ml.length #[] ml.length)
    obtain ⟨h1, h2⟩ := h w.heap.size hw.size
    exact ⟨h1 _ this, h2 _ _ (ha.put (by simpa using hdn) rfl) this⟩
theorem At.mapNext [Inhabited κ] [Inhabited α] {d : Nat} {ty : TypeId} {pos : String} {af : Array Edge} {gd : Option (Nat × Bool)} {x : Operand} {kf : κ → Value} {vf : α → Value} {b q : Nat} {ml : List (κ × α)} {seen : List Nat} {N1 : Nat → Hp}
    (ho : ops[i]? = some ⟨some d, .next x false, ty, pos, af, gd⟩) (hdn : Nat.blt d n = true) (hg : wantG ops l ⟨some d, .next x false, ty, pos, af, gd⟩ = some true) (hx : Ev n l true x (.pointer (some ⟨q, 0, none⟩))) (hm : mapE kf vf b ml ∈ S ++ (N ++ H)) (hu : ∀ j, UpL N (itE q b ml seen) (itE q b ml (seen ++ [j])) (N1 j))
    (h0 : (∀ j, j < ml.length → j ∈ seen) → Cl w0 S N H C ∧ At w0 n S ((d, true, .tuple #[.bool false]) :: l) N H (wpSch P ops C K r))
    (h1 : ∀ j, j < ml.length → j ∉ seen → Cl w0 S (N1 j) H C ∧ At w0 n S ((d, true, .tuple #[.bool true, kf (gE ml (j : Int)).1, vf (gE ml (j : Int)).2]) :: l) (N1 j) H (wpSch P ops C K r)) : At w0 n S l N H (wpSch P ops C K ((false, i) :: r)) :=
  At.eW (d := some d) ho hg fun a w ha hw => by
    have hb : w.heap[b]? = some (.map (mEs kf vf 0 ml).toArray ml.length) := Holds.st hm w hw
    have hq : w.heap[q]? = some (.mapIter (some b) ml.length seen.toArray ml.length) := hw.has _ (List.mem_append_left _ (hu 0).mem)
    unfold Oper.wp
    rcases run_next_at (P := P) w ty q b ml.length ml.length seen.toArray _ _ hq hb mEs_lt' (Nat.le_refl _) with ⟨h2, hrun⟩ | ⟨e, he, w1, hw1, hrun⟩
    · have hrun' : (execOp a.eval ⟨some d, .next x false, ty, pos, af, gd⟩).run P w = .ok (.value (.tuple #[.bool false])) w := by
        simp [execOp, hx rfl a ha, hrun]
      rw [hrun', Oper.upon_value]
      have hall : ∀ j, j < ml.length → j ∈ seen := fun j hj => by
        have h3 : (mEs kf vf 0 ml)[j]? = some { key := kf (ml[j]).1, val := vf (ml[j]).2, born := 0 + j } := by rw [mEs_get, List.getElem?_eq_getElem hj]; rfl
        have h4 := all_seen _ _ h2 _ (show _ ∈ (mEs kf vf 0 ml).toArray.toList from by simpa using List.mem_of_getElem? h3)
        simpa using h4
      obtain ⟨h3, h4⟩ := h0 hall
      exact ⟨h3 _ hw, h4 _ _ (ha.put (by simpa using hdn) rfl) hw⟩
    · obtain ⟨he1, he2⟩ := mem_left he
      obtain ⟨j, hj, hje⟩ := List.mem_iff_getElem.1 (show e ∈ mEs kf vf 0 ml by simpa using he1)
      have hget : (mEs kf vf 0 ml)[j]? = some e := by rw [List.getElem?_eq_getElem hj, hje]
      rw [mEs_get] at hget
      have hjl : j < ml.length := by
        rcases Nat.lt_or_ge j ml.length with h | h
        · exact h
        · rw [List.getElem?_eq_none h] at hget; cases hget
      rw [List.getElem?_eq_getElem hjl] at hget
      simp only [Option.map_some, Option.some.injEq] at hget
      subst hget
      have hns : j ∉ seen := fun hm2 => by
        simp at he2
        exact he2 hm2
      have hg2 : gE ml (j : Int) = ml[j] := by simp [gE, hjl]
      have hrun' : (execOp a.eval ⟨some d, .next x false, ty, pos, af, gd⟩).run P w = .ok (.value (.tuple #[.bool true, kf (ml[j]).1, vf (ml[j]).2])) (setBlock w1 q (.mapIter (some b) ml.length (seen.toArray.push (0 + j)) ml.length)) := by
        simp [execOp, hx rfl a ha, hrun]
      rw [hrun', Oper.upon_value, ← hg2]
      have hw1' : St w0 w1 S N H := by
        rcases hw1 with rfl | rfl
        · exact hw
        · exact hw.drew
      have hq1 : w1.heap[q]? = some (.mapIter (some b) ml.length seen.toArray ml.length) := by rcases hw1 with rfl | rfl <;> exact hq
      have hlt : q < w1.heap.size := (Array.getElem?_eq_some_iff.1 hq1).1
      have := hw1'.upd (w' := setBlock w1 q (.mapIter (some b) ml.length (seen.toArray.push (0 + j)) ml.length)) (.n (hu j)) rfl (show (itE q b ml (seen ++ [j])).holds _ by simp [Ent.holds, setBlock, hlt]) rfl rfl rfl (by simp [setBlock]) fun k _ hk => by
        have : q ≠ k := fun e => hk (by rw [e]; rfl)
        simp [setBlock, this]
      obtain ⟨h3, h4⟩ := h1 j hjl hns
      exact ⟨h3 _ this, h4 _ _ (ha.put (by simpa using hdn) rfl) this⟩
theorem R.entry {g : Bool} {d : Option Tmp} {ty : TypeId} {pos : String} {af : Array Edge} {gd : Option (Nat × Bool)} {x : Operand} {kf : κ → Value} {vf : α → Value} {b q j : Nat} [Inhabited κ] [Inhabited α] {ml : List (κ × α)} {seen : List Nat} (hx : Ev n l g x (.pointer (some ⟨q, 0, none⟩)))
    (hE : ∀ w, C w → (mapE kf vf b ml).holds w) (hI : ∀ w, C w → (itE q b ml (seen ++ [j])).holds w) (hj : j < ml.length) : RunsC P n l C g ⟨d, .entry x, ty, pos, af, gd⟩ (.tuple #[kf (gE ml (j : Int)).1, vf (gE ml (j : Int)).2]) := fun hg a w ha hw => by
  have hb : w.heap[b]? = some (.map (mEs kf vf 0 ml).toArray ml.length) := hE w hw
  have hq : w.heap[q]? = some (.mapIter (some b) ml.length (seen.toArray.push j) ml.length) := by
    have := hI w hw
    simpa [Ent.holds] using this
  have h3 : (mEs kf vf 0 ml)[j]? = some { key := kf (ml[j]).1, val := vf (ml[j]).2, born := 0 + j } := by rw [mEs_get, List.getElem?_eq_getElem hj]; rfl
  have hr := run_entry_at (P := P) w q b ml.length seen.toArray (mEs kf vf 0 ml).toArray ml.length { key := kf (ml[j]).1, val := vf (ml[j]).2, born := 0 + j } (by simpa using hq) hb (by simpa using List.mem_of_getElem? h3) mEs_nodup
  have hg2 : gE ml (j : Int) = ml[j] := by simp [gE, hj]
  rw [hg2]
  simp [execOp, hx.eq hg ha, hr]
end
end Go.Proofs.YtbolanigdkgbdaaGreat
namespace Go.Proofs.YtbolanigdkgbdaaGreat
open Go Go.RowKit
set_option linter.unusedVariables false
structure Ar where
  w : List Int
  d0 : Int
  d1 : Int
  d2 : Int
  d3 : Int
  d4 : Int
  k : Int
  at_ : Int
  old : Int
  nw : Int
  ok : Bool
abbrev arC (wv : Value) (a : Ar) : Array Value := #[wv, .int .i64 a.d0, .int .i64 a.d1, .int .i64 a.d2, .int .i64 a.d3, .int .i64 a.d4, .int .i64 a.k, .int .i64 a.at_, .int .i64 a.old, .int .i64 a.nw, .bool a.ok]
abbrev arB (b : Nat) (wv : Value) (a : Ar) : Ent := .blk b (.cells (arC wv a) 95)
abbrev arW (wv : Value) (n : Nat) (a : Ar) : Ent := .row wv 3 1 n (zK.all a.w)
abbrev arR (wv : Value) (n : Nat) (a : Ar) : Ent := .rd wv 1 n (zK.all a.w)
def Ar.hit (a : Ar) (i : Int) : Bool := decide (0 ≤ i) && decide (i < (a.w.length : Int))
theorem Ar.hit_yes {a : Ar} {i : Int} (h : a.hit i = true) : 0 ≤ i ∧ i < a.w.length := by simpa [Ar.hit] using h
def Ar.few (a : Ar) : Prop := (0 ≤ a.d0 ∧ a.d0 ≤ 1000000000) ∧ (0 ≤ a.d1 ∧ a.d1 ≤ 1000000000) ∧ (0 ≤ a.d2 ∧ a.d2 ≤ 1000000000) ∧ (0 ≤ a.d3 ∧ a.d3 ≤ 1000000000) ∧ (0 ≤ a.d4 ∧ a.d4 ≤ 1000000000)
def Ar.note (a : Ar) (k i old nw : Int) (ok : Bool) : Ar := ⟨a.w, a.d0, if k = 1 then a.d1 + 1 else a.d1, if k = 2 then a.d2 + 1 else a.d2, if k = 3 then a.d3 + 1 else a.d3, if k = 4 then a.d4 + 1 else a.d4, k, i, old, nw, ok⟩
def Ar.peek (a : Ar) (i : Int) : Int := if a.hit i = true then gE a.w i else 0
def Ar.poke (a : Ar) (i x : Int) : Ar := if a.hit i = true then ⟨a.w.set i.toNat x, a.d0, a.d1, a.d2, a.d3, a.d4, a.k, a.at_, a.old, a.nw, a.ok⟩ else a
def Ar.acc (a : Ar) (k i : Int) (g : Int → Int) (okf : Int → Bool) : Ar :=
  if a.hit i = true then (a.poke i (g (gE a.w i))).note k i (gE a.w i) (g (gE a.w i)) (okf (gE a.w i) && decide (k = 3)) else a.note k i 0 0 false
def Ar.ran (a : Ar) (i : Int) (okf : Int → Bool) : Bool := if a.hit i = true then okf (gE a.w i) else false
theorem Ar.poke_len (a : Ar) (i x : Int) : (a.poke i x).w.length = a.w.length := by unfold Ar.poke; split <;> simp
theorem Rds.blks {C : World → Prop} {bks : List (Nat × Obj)} (h : ∀ x ∈ bks, Holds C (.blk x.1 x.2)) : Rds C (bks.map fun x => .blk x.1 x.2) := by
  induction bks with
  | nil => exact .nil
  | cons x bks ih => exact .blk (h x (by simp)) (ih fun y hy => h y (by simp [hy]))
end Go.Proofs.YtbolanigdkgbdaaGreat
