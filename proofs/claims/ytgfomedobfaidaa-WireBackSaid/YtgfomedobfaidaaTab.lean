/-
  Closed facts of the program: functions that can be called; rows of the table of types.
-/
import Derived.Test.YtgfomedobfaidaaAny
import Derived.Test.YtgfomedobfaidaaProg
namespace Go.Proofs.Ytgfomedobfaidaa
theorem mixed : Try.prog.follows .mixedOrders = true := by kernel_rfl
theorem cal3 : Callable Try.prog 3 := ⟨Try.f3, Try.func3, by kernel_rfl, by kernel_rfl⟩
theorem cal4 : Callable Try.prog 4 := ⟨Try.f4, Try.func4, by kernel_rfl, by kernel_rfl⟩
theorem cal5 : Callable Try.prog 5 := ⟨Try.f5, Try.func5, by kernel_rfl, by kernel_rfl⟩
theorem cal6 : Callable Try.prog 6 := ⟨Try.f6, Try.func6, by kernel_rfl, by kernel_rfl⟩
theorem cal7 : Callable Try.prog 7 := ⟨Try.f7, Try.func7, by kernel_rfl, by kernel_rfl⟩
theorem cal8 : Callable Try.prog 8 := ⟨Try.f8, Try.func8, by kernel_rfl, by kernel_rfl⟩
theorem cal9 : Callable Try.prog 9 := ⟨Try.f9, Try.func9, by kernel_rfl, by kernel_rfl⟩
theorem cal10 : Callable Try.prog 10 := ⟨Try.f10, Try.func10, by kernel_rfl, by kernel_rfl⟩
theorem cal11 : Callable Try.prog 11 := ⟨Try.f11, Try.func11, by kernel_rfl, by kernel_rfl⟩
theorem cal12 : Callable Try.prog 12 := ⟨Try.f12, Try.func12, by kernel_rfl, by kernel_rfl⟩
theorem cal13 : Callable Try.prog 13 := ⟨Try.f13, Try.func13, by kernel_rfl, by kernel_rfl⟩
theorem cal14 : Callable Try.prog 14 := ⟨Try.f14, Try.func14, by kernel_rfl, by kernel_rfl⟩
theorem cal15 : Callable Try.prog 15 := ⟨Try.f15, Try.func15, by kernel_rfl, by kernel_rfl⟩
theorem cal16 : Callable Try.prog 16 := ⟨Try.f16, Try.func16, by kernel_rfl, by kernel_rfl⟩
theorem cal17 : Callable Try.prog 17 := ⟨Try.f17, Try.func17, by kernel_rfl, by kernel_rfl⟩
theorem cal18 : Callable Try.prog 18 := ⟨Try.f18, Try.func18, by kernel_rfl, by kernel_rfl⟩
theorem cal19 : Callable Try.prog 19 := ⟨Try.f19, Try.func19, by kernel_rfl, by kernel_rfl⟩
theorem cal20 : Callable Try.prog 20 := ⟨Try.f20, Try.func20, by kernel_rfl, by kernel_rfl⟩
theorem cal21 : Callable Try.prog 21 := ⟨Try.f21, Try.func21, by kernel_rfl, by kernel_rfl⟩
theorem cal22 : Callable Try.prog 22 := ⟨Try.f22, Try.func22, by kernel_rfl, by kernel_rfl⟩
theorem cal23 : Callable Try.prog 23 := ⟨Try.f23, Try.func23, by kernel_rfl, by kernel_rfl⟩
theorem cal24 : Callable Try.prog 24 := ⟨Try.f24, Try.func24, by kernel_rfl, by kernel_rfl⟩
theorem cal25 : Callable Try.prog 25 := ⟨Try.f25, Try.func25, by kernel_rfl, by kernel_rfl⟩
theorem cal26 : Callable Try.prog 26 := ⟨Try.f26, Try.func26, by kernel_rfl, by kernel_rfl⟩
theorem cal27 : Callable Try.prog 27 := ⟨Try.f27, Try.func27, by kernel_rfl, by kernel_rfl⟩
theorem cal28 : Callable Try.prog 28 := ⟨Try.f28, Try.func28, by kernel_rfl, by kernel_rfl⟩
theorem cal29 : Callable Try.prog 29 := ⟨Try.f29, Try.func29, by kernel_rfl, by kernel_rfl⟩
theorem cal30 : Callable Try.prog 30 := ⟨Try.f30, Try.func30, by kernel_rfl, by kernel_rfl⟩
theorem cal31 : Callable Try.prog 31 := ⟨Try.f31, Try.func31, by kernel_rfl, by kernel_rfl⟩
theorem cal32 : Callable Try.prog 32 := ⟨Try.f32, Try.func32, by kernel_rfl, by kernel_rfl⟩
theorem cal33 : Callable Try.prog 33 := ⟨Try.f33, Try.func33, by kernel_rfl, by kernel_rfl⟩
theorem cal34 : Callable Try.prog 34 := ⟨Try.f34, Try.func34, by kernel_rfl, by kernel_rfl⟩
theorem cal35 : Callable Try.prog 35 := ⟨Try.f35, Try.func35, by kernel_rfl, by kernel_rfl⟩
theorem cal36 : Callable Try.prog 36 := ⟨Try.f36, Try.func36, by kernel_rfl, by kernel_rfl⟩
theorem cal37 : Callable Try.prog 37 := ⟨Try.f37, Try.func37, by kernel_rfl, by kernel_rfl⟩
theorem cal38 : Callable Try.prog 38 := ⟨Try.f38, Try.func38, by kernel_rfl, by kernel_rfl⟩
theorem cal39 : Callable Try.prog 39 := ⟨Try.f39, Try.func39, by kernel_rfl, by kernel_rfl⟩
theorem cal40 : Callable Try.prog 40 := ⟨Try.f40, Try.func40, by kernel_rfl, by kernel_rfl⟩
theorem cal41 : Callable Try.prog 41 := ⟨Try.f41, Try.func41, by kernel_rfl, by kernel_rfl⟩
theorem cal42 : Callable Try.prog 42 := ⟨Try.f42, Try.func42, by kernel_rfl, by kernel_rfl⟩
theorem cal43 : Callable Try.prog 43 := ⟨Try.f43, Try.func43, by kernel_rfl, by kernel_rfl⟩
theorem cal44 : Callable Try.prog 44 := ⟨Try.f44, Try.func44, by kernel_rfl, by kernel_rfl⟩
theorem cal45 : Callable Try.prog 45 := ⟨Try.f45, Try.func45, by kernel_rfl, by kernel_rfl⟩
theorem cal46 : Callable Try.prog 46 := ⟨Try.f46, Try.func46, by kernel_rfl, by kernel_rfl⟩
theorem cal47 : Callable Try.prog 47 := ⟨Try.f47, Try.func47, by kernel_rfl, by kernel_rfl⟩
theorem cal48 : Callable Try.prog 48 := ⟨Try.f48, Try.func48, by kernel_rfl, by kernel_rfl⟩
theorem cal49 : Callable Try.prog 49 := ⟨Try.f49, Try.func49, by kernel_rfl, by kernel_rfl⟩
theorem cal50 : Callable Try.prog 50 := ⟨Try.f50, Try.func50, by kernel_rfl, by kernel_rfl⟩
theorem cal51 : Callable Try.prog 51 := ⟨Try.f51, Try.func51, by kernel_rfl, by kernel_rfl⟩
theorem cal52 : Callable Try.prog 52 := ⟨Try.f52, Try.func52, by kernel_rfl, by kernel_rfl⟩
theorem cal53 : Callable Try.prog 53 := ⟨Try.f53, Try.func53, by kernel_rfl, by kernel_rfl⟩
theorem cal54 : Callable Try.prog 54 := ⟨Try.f54, Try.func54, by kernel_rfl, by kernel_rfl⟩
theorem cal55 : Callable Try.prog 55 := ⟨Try.f55, Try.func55, by kernel_rfl, by kernel_rfl⟩
theorem cal56 : Callable Try.prog 56 := ⟨Try.f56, Try.func56, by kernel_rfl, by kernel_rfl⟩
theorem cal57 : Callable Try.prog 57 := ⟨Try.f57, Try.func57, by kernel_rfl, by kernel_rfl⟩
theorem cal58 : Callable Try.prog 58 := ⟨Try.f58, Try.func58, by kernel_rfl, by kernel_rfl⟩
theorem cal59 : Callable Try.prog 59 := ⟨Try.f59, Try.func59, by kernel_rfl, by kernel_rfl⟩
theorem cal60 : Callable Try.prog 60 := ⟨Try.f60, Try.func60, by kernel_rfl, by kernel_rfl⟩
theorem cal61 : Callable Try.prog 61 := ⟨Try.f61, Try.func61, by kernel_rfl, by kernel_rfl⟩
theorem cal62 : Callable Try.prog 62 := ⟨Try.f62, Try.func62, by kernel_rfl, by kernel_rfl⟩
theorem cal63 : Callable Try.prog 63 := ⟨Try.f63, Try.func63, by kernel_rfl, by kernel_rfl⟩
theorem cal64 : Callable Try.prog 64 := ⟨Try.f64, Try.func64, by kernel_rfl, by kernel_rfl⟩
theorem cal65 : Callable Try.prog 65 := ⟨Try.f65, Try.func65, by kernel_rfl, by kernel_rfl⟩
theorem cal66 : Callable Try.prog 66 := ⟨Try.f66, Try.func66, by kernel_rfl, by kernel_rfl⟩
theorem cal67 : Callable Try.prog 67 := ⟨Try.f67, Try.func67, by kernel_rfl, by kernel_rfl⟩
theorem cal68 : Callable Try.prog 68 := ⟨Try.f68, Try.func68, by kernel_rfl, by kernel_rfl⟩
theorem cal69 : Callable Try.prog 69 := ⟨Try.f69, Try.func69, by kernel_rfl, by kernel_rfl⟩
theorem cal70 : Callable Try.prog 70 := ⟨Try.f70, Try.func70, by kernel_rfl, by kernel_rfl⟩
theorem cal71 : Callable Try.prog 71 := ⟨Try.f71, Try.func71, by kernel_rfl, by kernel_rfl⟩
theorem cal72 : Callable Try.prog 72 := ⟨Try.f72, Try.func72, by kernel_rfl, by kernel_rfl⟩
theorem cal73 : Callable Try.prog 73 := ⟨Try.f73, Try.func73, by kernel_rfl, by kernel_rfl⟩
theorem cal74 : Callable Try.prog 74 := ⟨Try.f74, Try.func74, by kernel_rfl, by kernel_rfl⟩
theorem cal75 : Callable Try.prog 75 := ⟨Try.f75, Try.func75, by kernel_rfl, by kernel_rfl⟩
theorem cal76 : Callable Try.prog 76 := ⟨Try.f76, Try.func76, by kernel_rfl, by kernel_rfl⟩
theorem cal77 : Callable Try.prog 77 := ⟨Try.f77, Try.func77, by kernel_rfl, by kernel_rfl⟩
theorem cal78 : Callable Try.prog 78 := ⟨Try.f78, Try.func78, by kernel_rfl, by kernel_rfl⟩
theorem cal79 : Callable Try.prog 79 := ⟨Try.f79, Try.func79, by kernel_rfl, by kernel_rfl⟩
theorem cal80 : Callable Try.prog 80 := ⟨Try.f80, Try.func80, by kernel_rfl, by kernel_rfl⟩
theorem cal81 : Callable Try.prog 81 := ⟨Try.f81, Try.func81, by kernel_rfl, by kernel_rfl⟩
theorem cal82 : Callable Try.prog 82 := ⟨Try.f82, Try.func82, by kernel_rfl, by kernel_rfl⟩
theorem cal83 : Callable Try.prog 83 := ⟨Try.f83, Try.func83, by kernel_rfl, by kernel_rfl⟩
theorem cal84 : Callable Try.prog 84 := ⟨Try.f84, Try.func84, by kernel_rfl, by kernel_rfl⟩
theorem cal85 : Callable Try.prog 85 := ⟨Try.f85, Try.func85, by kernel_rfl, by kernel_rfl⟩
theorem cal86 : Callable Try.prog 86 := ⟨Try.f86, Try.func86, by kernel_rfl, by kernel_rfl⟩
theorem cal87 : Callable Try.prog 87 := ⟨Try.f87, Try.func87, by kernel_rfl, by kernel_rfl⟩
theorem cal88 : Callable Try.prog 88 := ⟨Try.f88, Try.func88, by kernel_rfl, by kernel_rfl⟩
theorem cal89 : Callable Try.prog 89 := ⟨Try.f89, Try.func89, by kernel_rfl, by kernel_rfl⟩
theorem cal90 : Callable Try.prog 90 := ⟨Try.f90, Try.func90, by kernel_rfl, by kernel_rfl⟩
theorem cal91 : Callable Try.prog 91 := ⟨Try.f91, Try.func91, by kernel_rfl, by kernel_rfl⟩
theorem cal92 : Callable Try.prog 92 := ⟨Try.f92, Try.func92, by kernel_rfl, by kernel_rfl⟩
theorem cal93 : Callable Try.prog 93 := ⟨Try.f93, Try.func93, by kernel_rfl, by kernel_rfl⟩
theorem cal94 : Callable Try.prog 94 := ⟨Try.f94, Try.func94, by kernel_rfl, by kernel_rfl⟩
theorem cal95 : Callable Try.prog 95 := ⟨Try.f95, Try.func95, by kernel_rfl, by kernel_rfl⟩
theorem cal96 : Callable Try.prog 96 := ⟨Try.f96, Try.func96, by kernel_rfl, by kernel_rfl⟩
theorem cal97 : Callable Try.prog 97 := ⟨Try.f97, Try.func97, by kernel_rfl, by kernel_rfl⟩
theorem cal98 : Callable Try.prog 98 := ⟨Try.f98, Try.func98, by kernel_rfl, by kernel_rfl⟩
theorem cal99 : Callable Try.prog 99 := ⟨Try.f99, Try.func99, by kernel_rfl, by kernel_rfl⟩
theorem cal100 : Callable Try.prog 100 := ⟨Try.f100, Try.func100, by kernel_rfl, by kernel_rfl⟩
theorem cal101 : Callable Try.prog 101 := ⟨Try.f101, Try.func101, by kernel_rfl, by kernel_rfl⟩
theorem cal102 : Callable Try.prog 102 := ⟨Try.f102, Try.func102, by kernel_rfl, by kernel_rfl⟩
theorem cal103 : Callable Try.prog 103 := ⟨Try.f103, Try.func103, by kernel_rfl, by kernel_rfl⟩
theorem cal104 : Callable Try.prog 104 := ⟨Try.f104, Try.func104, by kernel_rfl, by kernel_rfl⟩
theorem cal105 : Callable Try.prog 105 := ⟨Try.f105, Try.func105, by kernel_rfl, by kernel_rfl⟩
theorem cal106 : Callable Try.prog 106 := ⟨Try.f106, Try.func106, by kernel_rfl, by kernel_rfl⟩
theorem cal107 : Callable Try.prog 107 := ⟨Try.f107, Try.func107, by kernel_rfl, by kernel_rfl⟩
theorem cal108 : Callable Try.prog 108 := ⟨Try.f108, Try.func108, by kernel_rfl, by kernel_rfl⟩
theorem cal109 : Callable Try.prog 109 := ⟨Try.f109, Try.func109, by kernel_rfl, by kernel_rfl⟩
theorem cal110 : Callable Try.prog 110 := ⟨Try.f110, Try.func110, by kernel_rfl, by kernel_rfl⟩
theorem cal111 : Callable Try.prog 111 := ⟨Try.f111, Try.func111, by kernel_rfl, by kernel_rfl⟩
theorem cal112 : Callable Try.prog 112 := ⟨Try.f112, Try.func112, by kernel_rfl, by kernel_rfl⟩
theorem cal113 : Callable Try.prog 113 := ⟨Try.f113, Try.func113, by kernel_rfl, by kernel_rfl⟩
theorem cal114 : Callable Try.prog 114 := ⟨Try.f114, Try.func114, by kernel_rfl, by kernel_rfl⟩
theorem cal115 : Callable Try.prog 115 := ⟨Try.f115, Try.func115, by kernel_rfl, by kernel_rfl⟩
theorem cal116 : Callable Try.prog 116 := ⟨Try.f116, Try.func116, by kernel_rfl, by kernel_rfl⟩
theorem cal117 : Callable Try.prog 117 := ⟨Try.f117, Try.func117, by kernel_rfl, by kernel_rfl⟩
theorem cal118 : Callable Try.prog 118 := ⟨Try.f118, Try.func118, by kernel_rfl, by kernel_rfl⟩
theorem cal119 : Callable Try.prog 119 := ⟨Try.f119, Try.func119, by kernel_rfl, by kernel_rfl⟩
theorem cal120 : Callable Try.prog 120 := ⟨Try.f120, Try.func120, by kernel_rfl, by kernel_rfl⟩
theorem cal121 : Callable Try.prog 121 := ⟨Try.f121, Try.func121, by kernel_rfl, by kernel_rfl⟩
theorem cal122 : Callable Try.prog 122 := ⟨Try.f122, Try.func122, by kernel_rfl, by kernel_rfl⟩
theorem cal123 : Callable Try.prog 123 := ⟨Try.f123, Try.func123, by kernel_rfl, by kernel_rfl⟩
theorem cal124 : Callable Try.prog 124 := ⟨Try.f124, Try.func124, by kernel_rfl, by kernel_rfl⟩
theorem cal125 : Callable Try.prog 125 := ⟨Try.f125, Try.func125, by kernel_rfl, by kernel_rfl⟩
theorem cal126 : Callable Try.prog 126 := ⟨Try.f126, Try.func126, by kernel_rfl, by kernel_rfl⟩
theorem cal127 : Callable Try.prog 127 := ⟨Try.f127, Try.func127, by kernel_rfl, by kernel_rfl⟩
theorem cal128 : Callable Try.prog 128 := ⟨Try.f128, Try.func128, by kernel_rfl, by kernel_rfl⟩
theorem cal129 : Callable Try.prog 129 := ⟨Try.f129, Try.func129, by kernel_rfl, by kernel_rfl⟩
theorem cal130 : Callable Try.prog 130 := ⟨Try.f130, Try.func130, by kernel_rfl, by kernel_rfl⟩
theorem cal131 : Callable Try.prog 131 := ⟨Try.f131, Try.func131, by kernel_rfl, by kernel_rfl⟩
theorem cal132 : Callable Try.prog 132 := ⟨Try.f132, Try.func132, by kernel_rfl, by kernel_rfl⟩
theorem cal133 : Callable Try.prog 133 := ⟨Try.f133, Try.func133, by kernel_rfl, by kernel_rfl⟩
theorem cal134 : Callable Try.prog 134 := ⟨Try.f134, Try.func134, by kernel_rfl, by kernel_rfl⟩
theorem cal135 : Callable Try.prog 135 := ⟨Try.f135, Try.func135, by kernel_rfl, by kernel_rfl⟩
theorem cal136 : Callable Try.prog 136 := ⟨Try.f136, Try.func136, by kernel_rfl, by kernel_rfl⟩
theorem cal137 : Callable Try.prog 137 := ⟨Try.f137, Try.func137, by kernel_rfl, by kernel_rfl⟩
theorem cal138 : Callable Try.prog 138 := ⟨Try.f138, Try.func138, by kernel_rfl, by kernel_rfl⟩
theorem cal139 : Callable Try.prog 139 := ⟨Try.f139, Try.func139, by kernel_rfl, by kernel_rfl⟩
theorem cal140 : Callable Try.prog 140 := ⟨Try.f140, Try.func140, by kernel_rfl, by kernel_rfl⟩
theorem cal141 : Callable Try.prog 141 := ⟨Try.f141, Try.func141, by kernel_rfl, by kernel_rfl⟩
theorem cal142 : Callable Try.prog 142 := ⟨Try.f142, Try.func142, by kernel_rfl, by kernel_rfl⟩
theorem cal143 : Callable Try.prog 143 := ⟨Try.f143, Try.func143, by kernel_rfl, by kernel_rfl⟩
theorem cal144 : Callable Try.prog 144 := ⟨Try.f144, Try.func144, by kernel_rfl, by kernel_rfl⟩
theorem cal145 : Callable Try.prog 145 := ⟨Try.f145, Try.func145, by kernel_rfl, by kernel_rfl⟩
theorem cal146 : Callable Try.prog 146 := ⟨Try.f146, Try.func146, by kernel_rfl, by kernel_rfl⟩
theorem cal147 : Callable Try.prog 147 := ⟨Try.f147, Try.func147, by kernel_rfl, by kernel_rfl⟩
theorem cal148 : Callable Try.prog 148 := ⟨Try.f148, Try.func148, by kernel_rfl, by kernel_rfl⟩
theorem cal149 : Callable Try.prog 149 := ⟨Try.f149, Try.func149, by kernel_rfl, by kernel_rfl⟩
theorem cal150 : Callable Try.prog 150 := ⟨Try.f150, Try.func150, by kernel_rfl, by kernel_rfl⟩
theorem cal151 : Callable Try.prog 151 := ⟨Try.f151, Try.func151, by kernel_rfl, by kernel_rfl⟩
theorem cal152 : Callable Try.prog 152 := ⟨Try.f152, Try.func152, by kernel_rfl, by kernel_rfl⟩
theorem cal153 : Callable Try.prog 153 := ⟨Try.f153, Try.func153, by kernel_rfl, by kernel_rfl⟩
theorem cal154 : Callable Try.prog 154 := ⟨Try.f154, Try.func154, by kernel_rfl, by kernel_rfl⟩
theorem cal155 : Callable Try.prog 155 := ⟨Try.f155, Try.func155, by kernel_rfl, by kernel_rfl⟩
theorem cal156 : Callable Try.prog 156 := ⟨Try.f156, Try.func156, by kernel_rfl, by kernel_rfl⟩
theorem cal157 : Callable Try.prog 157 := ⟨Try.f157, Try.func157, by kernel_rfl, by kernel_rfl⟩
theorem cal158 : Callable Try.prog 158 := ⟨Try.f158, Try.func158, by kernel_rfl, by kernel_rfl⟩
theorem cal159 : Callable Try.prog 159 := ⟨Try.f159, Try.func159, by kernel_rfl, by kernel_rfl⟩
theorem cal160 : Callable Try.prog 160 := ⟨Try.f160, Try.func160, by kernel_rfl, by kernel_rfl⟩
theorem cal161 : Callable Try.prog 161 := ⟨Try.f161, Try.func161, by kernel_rfl, by kernel_rfl⟩
theorem cal162 : Callable Try.prog 162 := ⟨Try.f162, Try.func162, by kernel_rfl, by kernel_rfl⟩
theorem cal163 : Callable Try.prog 163 := ⟨Try.f163, Try.func163, by kernel_rfl, by kernel_rfl⟩
theorem cal164 : Callable Try.prog 164 := ⟨Try.f164, Try.func164, by kernel_rfl, by kernel_rfl⟩
theorem cal165 : Callable Try.prog 165 := ⟨Try.f165, Try.func165, by kernel_rfl, by kernel_rfl⟩
theorem cal166 : Callable Try.prog 166 := ⟨Try.f166, Try.func166, by kernel_rfl, by kernel_rfl⟩
theorem cal167 : Callable Try.prog 167 := ⟨Try.f167, Try.func167, by kernel_rfl, by kernel_rfl⟩
theorem cal168 : Callable Try.prog 168 := ⟨Try.f168, Try.func168, by kernel_rfl, by kernel_rfl⟩
theorem cal169 : Callable Try.prog 169 := ⟨Try.f169, Try.func169, by kernel_rfl, by kernel_rfl⟩
theorem cal170 : Callable Try.prog 170 := ⟨Try.f170, Try.func170, by kernel_rfl, by kernel_rfl⟩
theorem cal171 : Callable Try.prog 171 := ⟨Try.f171, Try.func171, by kernel_rfl, by kernel_rfl⟩
theorem cal172 : Callable Try.prog 172 := ⟨Try.f172, Try.func172, by kernel_rfl, by kernel_rfl⟩
theorem cal173 : Callable Try.prog 173 := ⟨Try.f173, Try.func173, by kernel_rfl, by kernel_rfl⟩
theorem cal174 : Callable Try.prog 174 := ⟨Try.f174, Try.func174, by kernel_rfl, by kernel_rfl⟩
theorem cal175 : Callable Try.prog 175 := ⟨Try.f175, Try.func175, by kernel_rfl, by kernel_rfl⟩
theorem cal176 : Callable Try.prog 176 := ⟨Try.f176, Try.func176, by kernel_rfl, by kernel_rfl⟩
theorem cal177 : Callable Try.prog 177 := ⟨Try.f177, Try.func177, by kernel_rfl, by kernel_rfl⟩
theorem cal178 : Callable Try.prog 178 := ⟨Try.f178, Try.func178, by kernel_rfl, by kernel_rfl⟩
theorem cal179 : Callable Try.prog 179 := ⟨Try.f179, Try.func179, by kernel_rfl, by kernel_rfl⟩
theorem cal180 : Callable Try.prog 180 := ⟨Try.f180, Try.func180, by kernel_rfl, by kernel_rfl⟩
theorem cal181 : Callable Try.prog 181 := ⟨Try.f181, Try.func181, by kernel_rfl, by kernel_rfl⟩
theorem cal182 : Callable Try.prog 182 := ⟨Try.f182, Try.func182, by kernel_rfl, by kernel_rfl⟩
theorem cal183 : Callable Try.prog 183 := ⟨Try.f183, Try.func183, by kernel_rfl, by kernel_rfl⟩
theorem cal184 : Callable Try.prog 184 := ⟨Try.f184, Try.func184, by kernel_rfl, by kernel_rfl⟩
theorem cal185 : Callable Try.prog 185 := ⟨Try.f185, Try.func185, by kernel_rfl, by kernel_rfl⟩
theorem cal186 : Callable Try.prog 186 := ⟨Try.f186, Try.func186, by kernel_rfl, by kernel_rfl⟩
theorem cal187 : Callable Try.prog 187 := ⟨Try.f187, Try.func187, by kernel_rfl, by kernel_rfl⟩
theorem cal188 : Callable Try.prog 188 := ⟨Try.f188, Try.func188, by kernel_rfl, by kernel_rfl⟩
theorem cal189 : Callable Try.prog 189 := ⟨Try.f189, Try.func189, by kernel_rfl, by kernel_rfl⟩
theorem cal190 : Callable Try.prog 190 := ⟨Try.f190, Try.func190, by kernel_rfl, by kernel_rfl⟩
theorem cal191 : Callable Try.prog 191 := ⟨Try.f191, Try.func191, by kernel_rfl, by kernel_rfl⟩
theorem cal192 : Callable Try.prog 192 := ⟨Try.f192, Try.func192, by kernel_rfl, by kernel_rfl⟩
theorem cal193 : Callable Try.prog 193 := ⟨Try.f193, Try.func193, by kernel_rfl, by kernel_rfl⟩
theorem cal194 : Callable Try.prog 194 := ⟨Try.f194, Try.func194, by kernel_rfl, by kernel_rfl⟩
theorem cal195 : Callable Try.prog 195 := ⟨Try.f195, Try.func195, by kernel_rfl, by kernel_rfl⟩
theorem cal196 : Callable Try.prog 196 := ⟨Try.f196, Try.func196, by kernel_rfl, by kernel_rfl⟩
theorem cal197 : Callable Try.prog 197 := ⟨Try.f197, Try.func197, by kernel_rfl, by kernel_rfl⟩
theorem cal198 : Callable Try.prog 198 := ⟨Try.f198, Try.func198, by kernel_rfl, by kernel_rfl⟩
theorem cal199 : Callable Try.prog 199 := ⟨Try.f199, Try.func199, by kernel_rfl, by kernel_rfl⟩
theorem cal200 : Callable Try.prog 200 := ⟨Try.f200, Try.func200, by kernel_rfl, by kernel_rfl⟩
theorem cal201 : Callable Try.prog 201 := ⟨Try.f201, Try.func201, by kernel_rfl, by kernel_rfl⟩
theorem cal202 : Callable Try.prog 202 := ⟨Try.f202, Try.func202, by kernel_rfl, by kernel_rfl⟩
theorem cal203 : Callable Try.prog 203 := ⟨Try.f203, Try.func203, by kernel_rfl, by kernel_rfl⟩
theorem cal204 : Callable Try.prog 204 := ⟨Try.f204, Try.func204, by kernel_rfl, by kernel_rfl⟩
theorem cal205 : Callable Try.prog 205 := ⟨Try.f205, Try.func205, by kernel_rfl, by kernel_rfl⟩
theorem cal206 : Callable Try.prog 206 := ⟨Try.f206, Try.func206, by kernel_rfl, by kernel_rfl⟩
theorem cal207 : Callable Try.prog 207 := ⟨Try.f207, Try.func207, by kernel_rfl, by kernel_rfl⟩
theorem cal208 : Callable Try.prog 208 := ⟨Try.f208, Try.func208, by kernel_rfl, by kernel_rfl⟩
theorem cal209 : Callable Try.prog 209 := ⟨Try.f209, Try.func209, by kernel_rfl, by kernel_rfl⟩
theorem cal210 : Callable Try.prog 210 := ⟨Try.f210, Try.func210, by kernel_rfl, by kernel_rfl⟩
theorem ty2 : tyRow Try.prog 2 = some (false, 1, some (.int .i64 0), 8) := by kernel_rfl
theorem ty3 : tyRow Try.prog 3 = some (false, 1, some (.int .i64 0), 8) := by kernel_rfl
theorem ty4 : tyRow Try.prog 4 = some (false, 1, some (.bool false), 1) := by kernel_rfl
theorem ty5 : tyRow Try.prog 5 = some (false, 1, some (.int .u8 0), 1) := by kernel_rfl
theorem ty6 : tyRow Try.prog 6 = some (false, 1, some (.int .u8 0), 1) := by kernel_rfl
theorem ty7 : tyRow Try.prog 7 = some (true, 4, some (.agg #[.int .i64 0, .int .i64 0, .bool false, .int .u8 0]), 24) := by kernel_rfl
theorem ty8 : tyRow Try.prog 8 = some (true, 4, some (.agg #[.int .i64 0, .int .i64 0, .bool false, .int .u8 0]), 24) := by kernel_rfl
theorem ty9 : tyRow Try.prog 9 = some (false, 1, some (.string ⟨#[]⟩), 16) := by kernel_rfl
theorem ty10 : tyRow Try.prog 10 = some (false, 1, some (.string ⟨#[]⟩), 16) := by kernel_rfl
theorem ty11 : tyRow Try.prog 11 = some (false, 1, some (.string ⟨#[]⟩), 16) := by kernel_rfl
theorem ty12 : tyRow Try.prog 12 = some (false, 1, some (.int .u64 0), 8) := by kernel_rfl
theorem ty13 : tyRow Try.prog 13 = some (true, 2, some (.agg #[.string ⟨#[]⟩, .int .u64 0]), 24) := by kernel_rfl
theorem ty14 : tyRow Try.prog 14 = some (true, 2, some (.agg #[.string ⟨#[]⟩, .int .u64 0]), 24) := by kernel_rfl
theorem ty15 : tyRow Try.prog 15 = some (false, 1, some (.pointer none), 8) := by kernel_rfl
theorem ty16 : tyRow Try.prog 16 = some (false, 1, some (.pointer none), 8) := by kernel_rfl
theorem ty17 : tyRow Try.prog 17 = some (false, 1, some (.pointer none), 8) := by kernel_rfl
theorem ty18 : tyRow Try.prog 18 = some (true, 1, some (.agg #[.pointer none]), 8) := by kernel_rfl
theorem ty19 : tyRow Try.prog 19 = some (true, 1, some (.agg #[.pointer none]), 8) := by kernel_rfl
theorem ty20 : tyRow Try.prog 20 = some (false, 1, some (.nilIface), 16) := by kernel_rfl
theorem ty21 : tyRow Try.prog 21 = some (false, 1, some (.int .i32 0), 4) := by kernel_rfl
theorem ty22 : tyRow Try.prog 22 = some (false, 1, some (.slice none 0 0), 24) := by kernel_rfl
theorem ty23 : tyRow Try.prog 23 = some (true, 6, some (.agg #[.int .i64 0, .int .i64 0, .int .i64 0, .int .i64 0, .int .i64 0, .slice none 0 0]), 64) := by kernel_rfl
theorem ty24 : tyRow Try.prog 24 = some (true, 6, some (.agg #[.int .i64 0, .int .i64 0, .int .i64 0, .int .i64 0, .int .i64 0, .slice none 0 0]), 64) := by kernel_rfl
theorem ty26 : tyRow Try.prog 26 = some (false, 1, some (.int .i64 0), 8) := by kernel_rfl
theorem ty31 : tyRow Try.prog 31 = some (true, 6, some (.agg #[.int .i64 0, .int .i64 0, .int .i64 0, .int .i64 0, .int .i64 0, .slice none 0 0]), 64) := by kernel_rfl
theorem ty34 : tyRow Try.prog 34 = some (false, 1, some (.slice none 0 0), 24) := by kernel_rfl
theorem ty35 : tyRow Try.prog 35 = some (true, 9, some (.agg #[.int .i64 0, .int .i64 0, .int .i64 0, .int .i64 0, .int .i64 0, .int .i64 0, .slice none 0 0, .slice none 0 0, .slice none 0 0]), 120) := by kernel_rfl
theorem ty36 : tyRow Try.prog 36 = some (true, 9, some (.agg #[.int .i64 0, .int .i64 0, .int .i64 0, .int .i64 0, .int .i64 0, .int .i64 0, .slice none 0 0, .slice none 0 0, .slice none 0 0]), 120) := by kernel_rfl
theorem ty38 : tyRow Try.prog 38 = some (false, 1, some (.slice none 0 0), 24) := by kernel_rfl
theorem ty39 : tyRow Try.prog 39 = some (true, 9, some (.agg #[.int .i64 0, .int .i64 0, .int .i64 0, .int .i64 0, .int .i64 0, .int .i64 0, .slice none 0 0, .slice none 0 0, .slice none 0 0]), 120) := by kernel_rfl
theorem ty40 : tyRow Try.prog 40 = some (true, 9, some (.agg #[.int .i64 0, .int .i64 0, .int .i64 0, .int .i64 0, .int .i64 0, .int .i64 0, .slice none 0 0, .slice none 0 0, .slice none 0 0]), 120) := by kernel_rfl
theorem ty41 : tyRow Try.prog 41 = some (false, 1, some (.slice none 0 0), 24) := by kernel_rfl
theorem ty42 : tyRow Try.prog 42 = some (true, 9, some (.agg #[.int .i64 0, .int .i64 0, .int .i64 0, .int .i64 0, .int .i64 0, .int .i64 0, .slice none 0 0, .slice none 0 0, .slice none 0 0]), 120) := by kernel_rfl
theorem ty43 : tyRow Try.prog 43 = some (true, 9, some (.agg #[.int .i64 0, .int .i64 0, .int .i64 0, .int .i64 0, .int .i64 0, .int .i64 0, .slice none 0 0, .slice none 0 0, .slice none 0 0]), 120) := by kernel_rfl
theorem ty50 : tyRow Try.prog 50 = some (false, 1, some (.int .u64 0), 8) := by kernel_rfl
theorem ty56 : tyRow Try.prog 56 = some (false, 1, some (.pointer none), 8) := by kernel_rfl
theorem ty58 : tyRow Try.prog 58 = some (false, 1, some (.slice none 0 0), 24) := by kernel_rfl
theorem ty59 : tyRow Try.prog 59 = some (true, 1, some (.agg #[.slice none 0 0]), 24) := by kernel_rfl
theorem ty60 : tyRow Try.prog 60 = some (true, 1, some (.agg #[.slice none 0 0]), 24) := by kernel_rfl
theorem ty62 : tyRow Try.prog 62 = some (false, 1, some (.int .u64 0), 8) := by kernel_rfl
theorem ty67 : tyRow Try.prog 67 = some (false, 1, some (.pointer none), 8) := by kernel_rfl
theorem ty70 : tyRow Try.prog 70 = some (false, 1, some (.slice none 0 0), 24) := by kernel_rfl
theorem ty71 : tyRow Try.prog 71 = some (false, 1, some (.slice none 0 0), 24) := by kernel_rfl
theorem ty72 : tyRow Try.prog 72 = some (false, 1, some (.slice none 0 0), 24) := by kernel_rfl
theorem ty73 : tyRow Try.prog 73 = some (false, 1, some (.slice none 0 0), 24) := by kernel_rfl
theorem ty74 : tyRow Try.prog 74 = some (true, 3, some (.agg #[.int .u64 0, .int .u64 0, .slice none 0 0]), 40) := by kernel_rfl
theorem ty75 : tyRow Try.prog 75 = some (true, 3, some (.agg #[.int .u64 0, .int .u64 0, .slice none 0 0]), 40) := by kernel_rfl
theorem ty76 : tyRow Try.prog 76 = some (true, 3, some (.agg #[.slice none 0 0, .slice none 0 0, .slice none 0 0]), 72) := by kernel_rfl
theorem ty77 : tyRow Try.prog 77 = some (true, 3, some (.agg #[.slice none 0 0, .slice none 0 0, .slice none 0 0]), 72) := by kernel_rfl
theorem ty78 : tyRow Try.prog 78 = some (false, 1, some (.slice none 0 0), 24) := by kernel_rfl
theorem ty79 : tyRow Try.prog 79 = some (false, 1, some (.slice none 0 0), 24) := by kernel_rfl
theorem ty81 : tyRow Try.prog 81 = some (true, 3, some (.agg #[.slice none 0 0, .slice none 0 0, .slice none 0 0]), 72) := by kernel_rfl
theorem ty82 : tyRow Try.prog 82 = some (true, 3, some (.agg #[.slice none 0 0, .slice none 0 0, .slice none 0 0]), 72) := by kernel_rfl
theorem ty85 : tyRow Try.prog 85 = some (true, 4, some (.agg #[.slice none 0 0, .slice none 0 0, .slice none 0 0, .slice none 0 0]), 96) := by kernel_rfl
theorem ty86 : tyRow Try.prog 86 = some (true, 4, some (.agg #[.slice none 0 0, .slice none 0 0, .slice none 0 0, .slice none 0 0]), 96) := by kernel_rfl
theorem ty87 : tyRow Try.prog 87 = some (true, 4, some (.agg #[.slice none 0 0, .slice none 0 0, .slice none 0 0, .slice none 0 0]), 96) := by kernel_rfl
theorem ty88 : tyRow Try.prog 88 = some (true, 4, some (.agg #[.slice none 0 0, .slice none 0 0, .slice none 0 0, .slice none 0 0]), 96) := by kernel_rfl
theorem ty122 : tyRow Try.prog 122 = some (true, 4, some (.agg #[.slice none 0 0, .slice none 0 0, .slice none 0 0, .slice none 0 0]), 96) := by kernel_rfl
theorem ty123 : tyRow Try.prog 123 = some (true, 4, some (.agg #[.slice none 0 0, .slice none 0 0, .slice none 0 0, .slice none 0 0]), 96) := by kernel_rfl
theorem ty129 : tyRow Try.prog 129 = some (true, 6, some (.agg #[.slice none 0 0, .slice none 0 0, .slice none 0 0, .slice none 0 0, .slice none 0 0, .slice none 0 0]), 144) := by kernel_rfl
theorem ty130 : tyRow Try.prog 130 = some (true, 6, some (.agg #[.int .u64 0, .int .u64 0, .int .u64 0, .int .u64 0, .int .u64 0, .int .u64 0]), 48) := by kernel_rfl
theorem ty133 : tyRow Try.prog 133 = some (true, 4, some (.agg #[.slice none 0 0, .slice none 0 0, .slice none 0 0, .slice none 0 0]), 96) := by kernel_rfl
theorem ty134 : tyRow Try.prog 134 = some (true, 4, some (.agg #[.slice none 0 0, .slice none 0 0, .slice none 0 0, .slice none 0 0]), 96) := by kernel_rfl
theorem ty142 : tyRow Try.prog 142 = some (false, 1, some (.pointer none), 8) := by kernel_rfl
theorem ty143 : tyRow Try.prog 143 = some (true, 2, some (.agg #[.slice none 0 0, .bool false]), 32) := by kernel_rfl
theorem ty144 : tyRow Try.prog 144 = some (true, 2, some (.agg #[.slice none 0 0, .bool false]), 32) := by kernel_rfl
theorem ty154 : tyRow Try.prog 154 = some (true, 6, some (.agg #[.bool false, .bool false, .bool false, .bool false, .bool false, .bool false]), 6) := by kernel_rfl
theorem ty158 : tyRow Try.prog 158 = some (false, 1, some (.pointer none), 8) := by kernel_rfl
theorem ty159 : tyRow Try.prog 159 = some (true, 2, some (.agg #[.slice none 0 0, .bool false]), 32) := by kernel_rfl
theorem ty167 : tyRow Try.prog 167 = some (false, 1, some (.int .u32 0), 4) := by kernel_rfl
theorem ty168 : tyRow Try.prog 168 = some (true, 5, some (.agg #[.pointer none, .pointer none, .slice none 0 0, .slice none 0 0, .int .i64 0]), 72) := by kernel_rfl
theorem ty169 : tyRow Try.prog 169 = some (true, 5, some (.agg #[.pointer none, .pointer none, .slice none 0 0, .slice none 0 0, .int .i64 0]), 72) := by kernel_rfl
theorem ty171 : tyRow Try.prog 171 = some (false, 1, some (.nilFunc), 8) := by kernel_rfl
theorem ty173 : tyRow Try.prog 173 = some (true, 2, some (.agg #[.slice none 0 0, .int .u64 0]), 32) := by kernel_rfl
theorem ty174 : tyRow Try.prog 174 = some (true, 2, some (.agg #[.slice none 0 0, .int .u64 0]), 32) := by kernel_rfl
theorem ty211 : tyRow Try.prog 211 = some (true, 16, some (.agg #[.slice none 0 0, .slice none 0 0, .slice none 0 0, .slice none 0 0, .slice none 0 0, .slice none 0 0, .slice none 0 0, .slice none 0 0, .slice none 0 0, .slice none 0 0, .slice none 0 0, .slice none 0 0, .slice none 0 0, .slice none 0 0, .slice none 0 0, .slice none 0 0]), 384) := by kernel_rfl
theorem ty222 : tyRow Try.prog 222 = some (true, 8, some (.agg #[.int .u32 0, .int .u32 0, .int .u32 0, .int .u32 0, .int .u32 0, .int .u32 0, .int .u32 0, .int .u32 0]), 32) := by kernel_rfl
theorem ty223 : tyRow Try.prog 223 = some (true, 8, some (.agg #[.int .u32 0, .int .u32 0, .int .u32 0, .int .u32 0, .int .u32 0, .int .u32 0, .int .u32 0, .int .u32 0]), 32) := by kernel_rfl
theorem ty225 : tyRow Try.prog 225 = some (true, 10, some (.agg #[.int .u32 0, .int .u32 0, .int .u32 0, .int .u32 0, .int .u32 0, .int .u32 0, .int .u32 0, .int .u32 0, .slice none 0 0, .int .i64 0]), 64) := by kernel_rfl
theorem ty226 : tyRow Try.prog 226 = some (true, 10, some (.agg #[.int .u32 0, .int .u32 0, .int .u32 0, .int .u32 0, .int .u32 0, .int .u32 0, .int .u32 0, .int .u32 0, .slice none 0 0, .int .i64 0]), 64) := by kernel_rfl
theorem ty227 : tyRow Try.prog 227 = some (true, 64, some (.agg #[.int .u32 0, .int .u32 0, .int .u32 0, .int .u32 0, .int .u32 0, .int .u32 0, .int .u32 0, .int .u32 0, .int .u32 0, .int .u32 0, .int .u32 0, .int .u32 0, .int .u32 0, .int .u32 0, .int .u32 0, .int .u32 0, .int .u32 0, .int .u32 0, .int .u32 0, .int .u32 0, .int .u32 0, .int .u32 0, .int .u32 0, .int .u32 0, .int .u32 0, .int .u32 0, .int .u32 0, .int .u32 0, .int .u32 0, .int .u32 0, .int .u32 0, .int .u32 0, .int .u32 0, .int .u32 0, .int .u32 0, .int .u32 0, .int .u32 0, .int .u32 0, .int .u32 0, .int .u32 0, .int .u32 0, .int .u32 0, .int .u32 0, .int .u32 0, .int .u32 0, .int .u32 0, .int .u32 0, .int .u32 0, .int .u32 0, .int .u32 0, .int .u32 0, .int .u32 0, .int .u32 0, .int .u32 0, .int .u32 0, .int .u32 0, .int .u32 0, .int .u32 0, .int .u32 0, .int .u32 0, .int .u32 0, .int .u32 0, .int .u32 0, .int .u32 0]), 256) := by kernel_rfl
theorem ty232 : tyRow Try.prog 232 = some (false, 1, some (.slice none 0 0), 24) := by kernel_rfl
theorem ty240 : tyRow Try.prog 240 = some (false, 1, some (.pointer none), 8) := by kernel_rfl
theorem ty249 : tyRow Try.prog 249 = some (true, 16, some (.agg #[.int .u32 0, .int .u32 0, .int .u32 0, .int .u32 0, .int .u32 0, .int .u32 0, .int .u32 0, .int .u32 0, .int .u32 0, .int .u32 0, .int .u32 0, .int .u32 0, .int .u32 0, .int .u32 0, .int .u32 0, .int .u32 0]), 64) := by kernel_rfl
theorem ty250 : tyRow Try.prog 250 = some (true, 16, some (.agg #[.int .u32 0, .int .u32 0, .int .u32 0, .int .u32 0, .int .u32 0, .int .u32 0, .int .u32 0, .int .u32 0, .int .u32 0, .int .u32 0, .int .u32 0, .int .u32 0, .int .u32 0, .int .u32 0, .int .u32 0, .int .u32 0]), 64) := by kernel_rfl
theorem ty253 : tyRow Try.prog 253 = some (false, 1, some (.nilFunc), 8) := by kernel_rfl
theorem ty255 : tyRow Try.prog 255 = some (false, 1, some (.pointer none), 8) := by kernel_rfl
theorem ty258 : tyRow Try.prog 258 = some (true, 4, some (.agg #[.pointer none, .pointer none, .pointer none, .string ⟨#[]⟩]), 40) := by kernel_rfl
theorem ty259 : tyRow Try.prog 259 = some (true, 4, some (.agg #[.pointer none, .pointer none, .pointer none, .string ⟨#[]⟩]), 40) := by kernel_rfl
theorem ty260 : tyRow Try.prog 260 = some (true, 0, some (.agg #[]), 0) := by kernel_rfl
theorem ty261 : tyRow Try.prog 261 = some (true, 0, some (.agg #[]), 0) := by kernel_rfl
theorem ty262 : tyRow Try.prog 262 = some (true, 0, some (.agg #[]), 0) := by kernel_rfl
theorem ty263 : tyRow Try.prog 263 = some (false, 1, some (.int .u8 0), 1) := by kernel_rfl
theorem ty264 : tyRow Try.prog 264 = some (false, 1, some (.int .u8 0), 1) := by kernel_rfl
theorem ty266 : tyRow Try.prog 266 = some (false, 1, some (.pointer none), 8) := by kernel_rfl
theorem ty267 : tyRow Try.prog 267 = some (false, 1, some (.int .i32 0), 4) := by kernel_rfl
theorem ty268 : tyRow Try.prog 268 = some (false, 1, some (.int .i32 0), 4) := by kernel_rfl
theorem ty269 : tyRow Try.prog 269 = some (true, 11, some (.agg #[.int .u64 0, .int .u64 0, .int .u32 0, .int .u8 0, .int .u8 0, .int .u8 0, .int .u8 0, .nilFunc, .pointer none, .int .i32 0, .int .i32 0]), 48) := by kernel_rfl
theorem ty270 : tyRow Try.prog 270 = some (true, 11, some (.agg #[.int .u64 0, .int .u64 0, .int .u32 0, .int .u8 0, .int .u8 0, .int .u8 0, .int .u8 0, .nilFunc, .pointer none, .int .i32 0, .int .i32 0]), 48) := by kernel_rfl
theorem ty271 : tyRow Try.prog 271 = some (false, 1, some (.pointer none), 8) := by kernel_rfl
end Go.Proofs.Ytgfomedobfaidaa
