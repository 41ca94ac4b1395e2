/- Texts joined: DualActsE DualActs. No condition but those that stand within. -/
import Derived.Deep.LoopGhost
import Derived.Deep.DeepCutAuto
import Derived.Deep.CutBlock
import Derived.Test.YtcnkgiapidlbkaaGreatDoorPkSwar
import Derived.Test.YtcnkgiapidlbkaaGreatDoorPkMeter
import Derived.Test.YtcnkgiapidlbkaaGreatDoorPkErrs
import Derived.Test.YtcnkgiapidlbkaaGreatDoorPkGroup
import Derived.Test.YtcnkgiapidlbkaaGreatDoorPkTab
import Derived.Test.YtcnkgiapidlbkaaGreatDoorPkTab2
import Derived.Test.YtcnkgiapidlbkaaGreatDoorPkTab3
import Derived.Test.YtcnkgiapidlbkaaGreatDoorPkTake
import Derived.Test.YtcnkgiapidlbkaaGreatDoorPkTabM
import Derived.Test.YtcnkgiapidlbkaaGreatDoorPkBuild
import Derived.Test.YtcnkgiapidlbkaaGreatDoorPkEvac
import Derived.Test.YtcnkgiapidlbkaaGreatDoorPkSound
import Derived.Test.YtcnkgiapidlbkaaGreatDoorPkRef09
import Derived.Test.YtcnkgiapidlbkaaGreatDoorPkEvac2
import Derived.Test.YtcnkgiapidlbkaaGreatDoorPkEvac3
import Derived.Test.YtcnkgiapidlbkaaGreatDoorPkSound2
import Derived.Test.YtcnkgiapidlbkaaGreatDoorPkActs
import Derived.Test.YtcnkgiapidlbkaaGreatDoorPkDual1
import Derived.Test.YtcnkgiapidlbkaaGreatDoorPkDual2
import Derived.Test.YtcnkgiapidlbkaaGreatDoorPkDual3
import Derived.Test.YtcnkgiapidlbkaaGreatDoorPkRef13
import Derived.Test.YtcnkgiapidlbkaaGreatDoorPkDaK
set_option linter.unusedVariables false
set_option linter.unusedSimpArgs false
set_option maxRecDepth 100000
set_option maxHeartbeats 16000000
namespace Go.Proofs.YtcnkgiapidlbkaaGreatDoor
open Go.RowKit Go.Proofs
attribute [local go_sem] neq_nilG eql_nilG
theorem daRestT {w0 wc:World} {C B5 B8 AL D M Rb X gt tcap W:Nat} {p0:PB} {pt:Nat→PB} {K':Nat→Prop} {L0:Int} {q0 q1 q2:Int} {cs:Array Value} {E:Nat→Addr} {k gn g j:Nat} {H:Int→Nat} {s':DuS} {mt':MeterS} {L0':Int} {Lc':Nat→Int} {bf' p' v' u':Int} {Q:Exit→Act→World→Prop}
 (hrel:daRel wc w0 C B5 B8 AL D M Rb X gt tcap W p0 pt K' L0 q0 q1 q2 cs E k gn g j H s' mt' L0' Lc' bf' p' v' u') (hkw:K' W) (hwk:¬KA C B5 B8 AL Rb X gt p0 pt k W) (hWW:w0.heap.size≤W∧AL≠W) (hag:AL≠gt) (hj:j<120)
 (hq:0≤q0∧0≤q1∧0≤q2∧q0≤10000*(j:Int)∧q1≤10000*(j:Int)∧q2≤10000*(j:Int)) (hL0:0≤L0∧L0≤10000*(j:Int)) (ct0 ct1 ct2 ct3 ct4 ct7 ct10 ct11 ct12 ct15 ct16 ct17 ct18 ct19 ct20 ct21 ct22 ct23 ct24 ct25 ct26 ct27 ct28 ct29 ct30 ct31 ct32 ct33 ct34 ct35 ct36 ct37 ct38 ct39 ct40 ct41 ct42 ct43 ct44 ct45 ct46 ct47 ct48 ct49 ct50 ct51 ct52 ct53 ct54 ct55 ct56 ct57 ct58 ct59 ct60 ct61 ct62 ct63 ct64 ct65 ct66 ct67 ct68 ct69 ct70 ct71 ct72 ct73 ct74 ct75 ct76 ct77 ct78 ct79 ct80 ct81 ct82 ct83 ct84 ct85 ct86 ct87 ct88 ct89 ct90 ct91 ct92 ct93 ct94 ct95 ct96 ct97 ct98 ct99 ct100 ct101 ct102 ct103 ct104 ct105 ct106 ct107 ct108 ct109 ct110 ct111 ct112 ct113 ct114 ct115 ct116 ct117 ct118 ct119 ct120 ct121 ct122 ct123 ct124 ct125 ct126 ct127 ct128 ct129 ct130 ct131 ct132 ct133 ct134 ct135 ct136 ct137 ct138 ct139 ct140 ct141 ct142 ct143 ct144 ct145 ct146 ct147 ct148 ct149 ct150 ct151 ct152 ct153 ct154 ct155 ct156 ct157 ct158 ct159 ct160 ct161 ct162 ct163 ct164 ct165 ct166 ct167 ct168 ct169 ct170 ct171 ct172 ct173 ct174 ct175 ct176 ct177 ct178 ct179 ct180 ct181 ct182 ct183 ct184 ct185 ct186 ct187 ct188 ct189 ct190 ct191 ct192 ct193 ct194 ct195 ct196 ct197 ct198 ct199 ct200 ct201 ct202 ct203 ct204 ct205 ct206 ct207 ct208 ct209 ct210 ct211 ct212 ct213 ct214 ct215 ct216 ct217 ct218 ct219 ct220 ct221 ct222 ct223 ct224 ct225 ct226 ct227 ct228 ct229 ct230 ct231 ct232 ct233 ct234 ct235 ct236 ct237 ct238 ct239 ct240 ct241 ct242 ct243 ct244 ct245 ct246 ct247 ct248 ct249 ct250 ct251 ct252 ct253 ct254 ct255 ct256 ct257 ct258 ct259 ct260 ct261 ct262 ct263 ct264 ct265 ct266 ct267 ct268 ct269 ct270 ct271 ct272 ct273 ct274 ct275 ct276 ct277 ct278 ct279 ct280 ct281 ct282 ct283 ct284 ct285 ct286 ct287 ct288 ct289 ct290 ct291 ct292 ct293 ct294 ct295 ct296 ct297 ct298 ct299 ct300 ct301 ct302 ct303 ct304 ct305 ct306 ct307 ct308 ct309 ct310 ct311 ct312 ct313 ct314 ct315 ct316 ct317 ct318 ct319 ct320 ct321 ct322 ct323 ct324 ct325 ct326 ct327 ct328 ct329 ct330 ct331 ct332 ct333 ct334 ct335 ct336 ct337 ct338 ct339 ct340 ct341 ct342 ct343 ct344 ct345 ct346 ct347 ct348 ct349 ct350 ct351 ct352 ct353 ct354 ct355 ct356 ct357 ct358 ct359 ct360 ct361 ct362 ct363 ct364 ct365 ct366 ct367 ct368 ct369 ct370 ct371 ct372 ct373 ct374 ct375 ct376 ct377 ct378 ct379 ct380 ct381 ct382 ct383 ct384 ct385 ct386 ct387 ct388 ct389 ct390 ct391 ct392 ct393:Value)
 (hPan:Hid (∀ (c:List PanicEntry) (a:Act) (d:Option Tmp) (v:Value) (w:World),Q (.panic c) (a.put d v) w→Q (.panic c) a w))
 (hQ:∀ (ut4 ut41 ut42 ut333 ut334 ut335 ut336 ut337 ut338 ut339 ut340 ut341 ut342 ut343 ut344 ut345 ut346 ut347 ut348 ut349 ut350 ut351 ut352 ut353 ut354 ut355 ut356 ut357 ut358 ut359 ut360 ut361 ut362 ut363 ut364 ut365 ut366 ut367 ut368 ut369 ut370 ut371 ut372 ut373 ut374 ut375 ut376 ut377 ut378 ut379 ut380 ut381 ut382 ut383 ut384 ut385 ut386 ut387 ut388 ut389 ut390 ut391 ut392:Value) (wx:World),DAs wx C B5 B8 AL D M Rb X gt tcap p0 pt s' mt' K' L0' Lc' (q0+(p'+(L0'+sumI Lc' k-bf'))) (q1+v') (q2+u') cs E w0→Q .normal ⟨#[ct0,ct1,ct2,ct3,ut4,.pointer (some ⟨B5,0,none⟩),.pointer (some ⟨Rb,0,none⟩),ct7,.pointer (some ⟨B8,0,none⟩),.pointer (some ⟨AL,0,none⟩),ct10,ct11,ct12,.int .i64 bf',.pointer (some ⟨W,0,none⟩),ct15,ct16,ct17,ct18,ct19,ct20,ct21,ct22,ct23,ct24,ct25,ct26,ct27,ct28,ct29,ct30,ct31,ct32,ct33,ct34,ct35,ct36,ct37,ct38,ct39,ct40,ut41,ut42,ct43,ct44,ct45,ct46,ct47,ct48,ct49,ct50,ct51,ct52,ct53,ct54,ct55,ct56,ct57,ct58,ct59,ct60,ct61,ct62,ct63,ct64,ct65,ct66,ct67,ct68,ct69,ct70,ct71,ct72,ct73,ct74,ct75,ct76,ct77,ct78,ct79,ct80,ct81,ct82,ct83,ct84,ct85,ct86,ct87,ct88,ct89,ct90,ct91,ct92,ct93,ct94,ct95,ct96,ct97,ct98,ct99,ct100,ct101,ct102,ct103,ct104,ct105,ct106,ct107,ct108,ct109,ct110,ct111,ct112,ct113,ct114,ct115,ct116,ct117,ct118,ct119,ct120,ct121,ct122,ct123,ct124,ct125,ct126,ct127,ct128,ct129,ct130,ct131,ct132,ct133,ct134,ct135,ct136,ct137,ct138,ct139,ct140,ct141,ct142,ct143,ct144,ct145,ct146,ct147,ct148,ct149,ct150,ct151,ct152,ct153,ct154,ct155,ct156,ct157,ct158,ct159,ct160,ct161,ct162,ct163,ct164,ct165,ct166,ct167,ct168,ct169,ct170,ct171,ct172,ct173,ct174,ct175,ct176,ct177,ct178,ct179,ct180,ct181,ct182,ct183,ct184,ct185,ct186,ct187,ct188,ct189,ct190,ct191,ct192,ct193,ct194,ct195,ct196,ct197,ct198,ct199,ct200,ct201,ct202,ct203,ct204,ct205,ct206,ct207,ct208,ct209,ct210,ct211,ct212,ct213,ct214,ct215,ct216,ct217,ct218,ct219,ct220,ct221,ct222,ct223,ct224,ct225,ct226,ct227,ct228,ct229,ct230,ct231,ct232,ct233,ct234,ct235,ct236,ct237,ct238,ct239,ct240,ct241,ct242,ct243,ct244,ct245,ct246,ct247,ct248,ct249,ct250,ct251,ct252,ct253,ct254,ct255,ct256,ct257,ct258,ct259,ct260,ct261,ct262,ct263,ct264,ct265,ct266,ct267,ct268,ct269,ct270,ct271,ct272,ct273,ct274,ct275,ct276,ct277,ct278,ct279,ct280,ct281,ct282,ct283,ct284,ct285,ct286,ct287,ct288,ct289,ct290,ct291,ct292,ct293,ct294,ct295,ct296,ct297,ct298,ct299,ct300,ct301,ct302,ct303,ct304,ct305,ct306,ct307,ct308,ct309,ct310,ct311,ct312,ct313,ct314,ct315,ct316,ct317,ct318,ct319,ct320,ct321,ct322,ct323,ct324,ct325,ct326,ct327,ct328,ct329,ct330,ct331,ct332,ut333,ut334,ut335,ut336,ut337,ut338,ut339,ut340,ut341,ut342,ut343,ut344,ut345,ut346,ut347,ut348,ut349,ut350,ut351,ut352,ut353,ut354,ut355,ut356,ut357,ut358,ut359,ut360,ut361,ut362,ut363,ut364,ut365,ut366,ut367,ut368,ut369,ut370,ut371,ut372,ut373,ut374,ut375,ut376,ut377,ut378,ut379,ut380,ut381,ut382,ut383,ut384,ut385,ut386,ut387,ut388,ut389,ut390,ut391,ut392,ct393],[]⟩ wx) :
 Code.wp Tryz.prog daRest Q ⟨#[ct0,ct1,ct2,ct3,ct4,.pointer (some ⟨B5,0,none⟩),.pointer (some ⟨Rb,0,none⟩),ct7,.pointer (some ⟨B8,0,none⟩),.pointer (some ⟨AL,0,none⟩),ct10,ct11,ct12,.int .i64 bf',.pointer (some ⟨W,0,none⟩),ct15,ct16,ct17,ct18,ct19,ct20,ct21,ct22,ct23,ct24,ct25,ct26,ct27,ct28,ct29,ct30,ct31,ct32,ct33,ct34,ct35,ct36,ct37,ct38,ct39,ct40,ct41,ct42,ct43,ct44,ct45,ct46,ct47,ct48,ct49,ct50,ct51,ct52,ct53,ct54,ct55,ct56,ct57,ct58,ct59,ct60,ct61,ct62,ct63,ct64,ct65,ct66,ct67,ct68,ct69,ct70,ct71,ct72,ct73,ct74,ct75,ct76,ct77,ct78,ct79,ct80,ct81,ct82,ct83,ct84,ct85,ct86,ct87,ct88,ct89,ct90,ct91,ct92,ct93,ct94,ct95,ct96,ct97,ct98,ct99,ct100,ct101,ct102,ct103,ct104,ct105,ct106,ct107,ct108,ct109,ct110,ct111,ct112,ct113,ct114,ct115,ct116,ct117,ct118,ct119,ct120,ct121,ct122,ct123,ct124,ct125,ct126,ct127,ct128,ct129,ct130,ct131,ct132,ct133,ct134,ct135,ct136,ct137,ct138,ct139,ct140,ct141,ct142,ct143,ct144,ct145,ct146,ct147,ct148,ct149,ct150,ct151,ct152,ct153,ct154,ct155,ct156,ct157,ct158,ct159,ct160,ct161,ct162,ct163,ct164,ct165,ct166,ct167,ct168,ct169,ct170,ct171,ct172,ct173,ct174,ct175,ct176,ct177,ct178,ct179,ct180,ct181,ct182,ct183,ct184,ct185,ct186,ct187,ct188,ct189,ct190,ct191,ct192,ct193,ct194,ct195,ct196,ct197,ct198,ct199,ct200,ct201,ct202,ct203,ct204,ct205,ct206,ct207,ct208,ct209,ct210,ct211,ct212,ct213,ct214,ct215,ct216,ct217,ct218,ct219,ct220,ct221,ct222,ct223,ct224,ct225,ct226,ct227,ct228,ct229,ct230,ct231,ct232,ct233,ct234,ct235,ct236,ct237,ct238,ct239,ct240,ct241,ct242,ct243,ct244,ct245,ct246,ct247,ct248,ct249,ct250,ct251,ct252,ct253,ct254,ct255,ct256,ct257,ct258,ct259,ct260,ct261,ct262,ct263,ct264,ct265,ct266,ct267,ct268,ct269,ct270,ct271,ct272,ct273,ct274,ct275,ct276,ct277,ct278,ct279,ct280,ct281,ct282,ct283,ct284,ct285,ct286,ct287,ct288,ct289,ct290,ct291,ct292,ct293,ct294,ct295,ct296,ct297,ct298,ct299,ct300,ct301,ct302,ct303,ct304,ct305,ct306,ct307,ct308,ct309,ct310,ct311,ct312,ct313,ct314,ct315,ct316,ct317,ct318,ct319,ct320,ct321,ct322,ct323,ct324,ct325,ct326,ct327,ct328,ct329,ct330,ct331,ct332,ct333,ct334,ct335,ct336,ct337,ct338,ct339,ct340,ct341,ct342,ct343,ct344,ct345,ct346,ct347,ct348,ct349,ct350,ct351,ct352,ct353,ct354,ct355,ct356,ct357,ct358,ct359,ct360,ct361,ct362,ct363,ct364,ct365,ct366,ct367,ct368,ct369,ct370,ct371,ct372,ct373,ct374,ct375,ct376,ct377,ct378,ct379,ct380,ct381,ct382,ct383,ct384,ct385,ct386,ct387,ct388,ct389,ct390,ct391,ct392,ct393],[]⟩ wc:=by
 conv=>arg 2;whnf
 have HQ:=hiq hQ
 have hKW:=hiq hkw
 clear hQ hkw
 obtain ⟨hD9,hW9,hy9,hsk9,hcn9,hbP,hbp,hbv,hbu,hbb,hbL,hlc9⟩:=hrel
 have D9:=hiq hD9
 have W9:=hiq hW9
 have HY9:=hiq hy9
 have HSK9:=hiq hsk9
 have HLC9:=hiq hlc9
 have hlb:=sumI_bd (f:=Lc') (m:=10000*(j:Int)+9000) (n:=k) hlc9
 have hk4:(k:Int)*(10000*(j:Int)+9000)≤2*(10000*(j:Int)+9000):=Int.mul_le_mul_of_nonneg_right (by have:=hy9.k12;rw [hsk9.1] at this;omega) (by omega)
 have LK2:=hiq (fun (w':World) (h':DM w' Rb X gt tcap p0 pt s' false L0' Lc')=>rlooks_any h'.r (show 0≤L0'∧L0'≤1000000000 by omega) (fun i hi=>by have:=hlc9 i (by rw [←hsk9.1];exact hi);omega))
 rw [hsk9.1] at LK2
 obtain ⟨lk,hlk⟩:=exq (L0'+sumI Lc' k)
 rw [←hlk] at LK2 hcn9 hbP
 obtain ⟨P,hP⟩:=exq (p'+(lk-bf'))
 rw [←hP] at hcn9 hbP
 have HCN9:=hiq hcn9
 have hlk1:0≤lk∧lk≤1000000000:=by omega
 have hwr1:IntKind.i64.wrap (lk-bf')=lk-bf':=by rw [IntKind.wrap_i64];omega
 have hwr2:IntKind.i64.wrap (p'+(lk-bf'))=P:=by rw [←hP,IntKind.wrap_i64];omega
 obtain ⟨w90,w91,w92⟩:=cells3 hW9
 have zw9:=hW9.lt
 have fw9:=hW9.frozen 0
 have h90:=hD9.r.hd.cell 0
 have zh9:=hD9.r.hd.lt
 have HWK9:=hiq (show ¬KA C B5 B8 AL Rb X gt p0 pt s'.k W from by rw [hsk9.1];exact hwk)
 replace hP:=hiq hP
 replace hlk:=hiq hlk
 clear hD9 hW9 hy9 hsk9 hlc9 hcn9 hlb hk4
 go_upto_region 67 with (fail)
 refine wp_region_seq (fun _=>False) #[⟨0,0,2^333,16384,0⟩,⟨1,1,2^334,2^333,1⟩,⟨0,0,2^335,64,0⟩,⟨4,4,2^336,2^335,0⟩,⟨8,12,2^337,2^336,0⟩,⟨16,28,2^338,2^337,1⟩,⟨32,60,2^339,2^338,2⟩,⟨0,0,2^340,8192,0⟩,⟨192,252,2^341,(2^339+2^340),0⟩,⟨258,511,2^342,(2^334+2^341),0⟩,⟨1023,1023,2^343,16384,0⟩,⟨2047,2047,0,(2^342+2^343),3⟩] 34 [(0,0),(1,1),(2,0),(3,0),(4,0),(5,1),(7,0),(6,2),(8,0),(9,0),(10,0),(11,3)] (by kernel_rfl) (by decide +kernel) (by kernel_rfl) (by kernel_rfl) (by decide +kernel) (by decide +kernel) (fun c a d v w h=>hPan.out c a d v w h) ?_
 refine zqC ?_
 refine zq1 Tryz.underlying3 ?_
 try refine zqP ?_;refine zqC ?_;refine zqC ?_;refine zqC ?_
 refine zq1 Tryz.underlying43 ?_
 try refine zqP ?_;refine zqC ?_
 refine zqD fun K hK=>?_;go_wp2_with ((go_at_call 9;(with_reducible refine (LK2.out _ D9.out.drew.r).mono ?_);rintro e w' ⟨rfl,rfl⟩));refine hkA hK (h:=?_);clear hK K
 try refine zqP ?_;refine zqC ?_;refine zqC ?_;refine zqC ?_
 refine zqE fun K hK=>?_;go_wp2_with (fail);refine hK.out _ _ ?_;clear hK K
 try refine zqP ?_
 refine seq_nil ?_
 go_upto_region 68 with (fail)
 refine wp_at (fun w10 hw10=>?_)
 have hc10:Chg (fun b=>b=W) wc w10:=by rw [hw10];first|exact (Chg.refl _ _).drew.set1 _ _|exact ((Chg.refl _ _).set1 _ _).drew
 have D10:=hiq (D9.out.other HWK9.out hKW.out hWW.1 hc10)
 have W10:=hiq (show Blk w10 W 34 #[.int .i64 P,.int .i64 v',.int .i64 u'] by rw [hw10];first|exact W9.out.drew.set 0 _|exact (W9.out.set 0 _).drew)
 obtain ⟨a100,a101,a102⟩:=cells3 D10.out.al
 have za10:=D10.out.al.lt
 have fa10:=fun j=>D10.out.al.frozen j
 obtain ⟨w100,w101,w102⟩:=cells3 W10.out
 have zw10:=W10.out.lt
 have hs0:sumZ q0 P=q0+P:=sumZ_add (by omega) (by omega) (by omega)
 have hs1:sumZ q1 v'=q1+v':=sumZ_add (by omega) (by omega) (by omega)
 have hs2:sumZ q2 u'=q2+u':=sumZ_add (by omega) (by omega) (by omega)
 have PL:=hiq (fun (w':World)=>meterPlus_any q0 q1 q2 P v' u' w')
 rw [hs0,hs1,hs2] at PL
 replace hw10:=hiq hw10
 clear hs0 hs1 hs2 hc10 w90 w91 w92 zw9 fw9 h90 zh9 hwr1 hwr2
 go_upto_region 69 with (go_at_call 32;(with_reducible refine (PL.out _).mono ?_);rintro e w11 ⟨rfl,hb11⟩;have D11:=hiq (D10.out.later hb11);have W11:=hiq (W10.out.below hb11 W10.out.lt);have a11:=cells3 D11.out.al;have a110:=a11.1;have a111:=a11.2.1;have a112:=a11.2.2;have za11:=D11.out.al.lt;have fa11:=fun j=>D11.out.al.frozen j;clear a11)
 refine wp_at (fun w12 hw12=>?_)
 have hc12:Chg (fun b=>b=AL) w11 w12:=by rw [hw12];exact (((Chg.refl _ _).set1 _ _).set1 _ _).set1 _ _
 have DN:=hiq (D11.out.setAL hag (show Blk w12 AL 34 #[.int .i64 (q0+P),.int .i64 (q1+v'),.int .i64 (q2+u')] by rw [hw12];exact ((D11.out.al.set 0 _).set 1 _).set 2 _) hc12)
 have WN:=hiq (W11.out.chg hc12 (fun e=>hWW.2 e.symm))
 replace hw12:=hiq hw12
 clear hc12 a100 a101 a102 za10 fa10 w100 w101 w102 zw10 a110 a111 a112 za11 fa11
 have GM:=hiq (fun (w':World) (h':DM w' Rb X gt tcap p0 pt s' false L0' Lc')=>h'.groups HY9.out.f.ok)
 have LS:=hiq (fun (w':World) (h':D1s w' D s' false M mt' K' E w0)=>meterLast_any mt' M 36 w' h'.m)
 rw [HCN9.out.l0,HCN9.out.l1,HCN9.out.l2] at LS
 have AM:=hiq (fun (w':World) (h':D1s w' D s' false M mt' K' E w0)=>meterAll_any mt' M 36 w' h'.m)
 rw [HCN9.out.a0,HCN9.out.a1,HCN9.out.a2] at AM
 have LF:=hiq (fun (w':World) (h':D1s w' D s' false M mt' K' E w0)=>h'.left)
 have LM:=hiq (fun (w':World) (h':DM w' Rb X gt tcap p0 pt s' false L0' Lc')=>h'.left HY9.out.f.ok)
 have RD:=hiq (fun (w':World) (h':D1s w' D s' false M mt' K' E w0)=>h'.ready)
 have LN:=hiq (fun (w':World) (h':D1s w' D s' false M mt' K' E w0)=>h'.len)
 have GR:=hiq (fun (w':World) (h':D1s w' D s' false M mt' K' E w0)=>h'.groups)
 have AA:=hiq (fun (w':World) (h':DM w' Rb X gt tcap p0 pt s' false L0' Lc')=>h'.all HY9.out.f.ok)
 obtain ⟨bI,hbI⟩:∃bI:Int,bI=(s'.bare:Int):=⟨_,rfl⟩
 have hbd:decide (bI=0)=decide (s'.bare=0):=decide_eq_decide.2 (by omega)
 have hbd2:(bI == 0)=decide (s'.bare=0):=by rw [←hbd];rfl
 have HBI:=hiq hbI
 generalize hbr:decide (s'.bare=0)=br at *
 generalize ((s'.left:Nat):Int)=lf at *
 generalize s'.groups=gg at *
 generalize s'.all s'.k=l at *
 clear hbI hbr
 have t5:=DN.out.b5.cell 0
 have zt5:=DN.out.b5.lt
 have t8:=DN.out.b8.cell 0
 have zt8:=DN.out.b8.lt
 obtain ⟨tw0,tw1,tw2⟩:=cells3 WN.out
 have ztw:=WN.out.lt
 obtain ⟨ta0,ta1,ta2⟩:=cells3 DN.out.al
 have zta:=DN.out.al.lt
 have th0:=DN.out.r.hd.cell 0
 have th1:=DN.out.r.hd.cell 1
 rw [←HBI.out] at th1
 have zth:=DN.out.r.hd.lt
 go_upto_region 70 with (go_at_call 22;(with_reducible refine (GM.out _ DN.out.r).mono ?_);rintro e w' ⟨rfl,rfl⟩)
 refine wp_region_seq (fun _=>False) #[⟨0,0,2^352,256,1⟩,⟨1,1,2^353,2^352,2⟩,⟨0,0,2^354,16384,1⟩,⟨6,7,2^355,(2^353+2^354),0⟩,⟨10,15,2^356,2^355,0⟩,⟨16,31,2^357,(2^8+2^356),1⟩,⟨48,63,2^358,(2^356+2^357),2⟩,⟨16,31,2^359,(2^9+2^356),1⟩,⟨208,255,2^360,(2^356+2^358+2^359),0⟩,⟨272,511,2^361,(2^356+2^360),0⟩,⟨576,1023,2^362,2^361,0⟩,⟨1024,2047,2^363,(2^5+2^362),1⟩,⟨3072,4095,2^364,(2^362+2^363),2⟩,⟨1024,2047,2^365,(2^6+2^362),0⟩,⟨13312,16383,2^366,(2^362+2^365),2⟩,⟨21504,32767,2^367,(2^362+2^364+2^366),0⟩,⟨33792,65535,2^368,(2^362+2^367),0⟩,⟨81920,131071,2^369,2^368,0⟩,⟨131072,262143,2^370,(2^5+2^369),1⟩,⟨393216,524287,2^371,(2^369+2^370),2⟩,⟨131072,262143,2^372,(2^6+2^369),0⟩,⟨1179648,1310719,2^373,(2^369+2^372),0⟩,⟨2228224,3407871,2^374,(2^369+2^373),0⟩,⟨4325376,7602175,2^375,(2^369+2^374),1⟩,⟨8519680,15990783,2^376,(2^369+2^375),0⟩,⟨17432576,33554431,2^377,(2^369+2^371+2^376),0⟩,⟨33685504,67108863,2^378,(2^369+2^377),0⟩,⟨67633152,134217727,2^379,2^378,0⟩,⟨134217728,268435455,2^380,(2^5+2^379),1⟩,⟨402653184,536870911,2^381,(2^379+2^380),2⟩,⟨134217728,268435455,2^382,(2^6+2^379),0⟩,⟨1744830464,2147483647,2^383,(2^379+2^382),2⟩,⟨2281701376,4294967295,2^384,(2^379+2^383),0⟩,⟨4966055936,8589934591,2^385,(2^379+2^381+2^384),0⟩,⟨8724152320,17179869183,2^386,(2^379+2^385),0⟩,⟨19327352832,34359738367,2^387,2^386,0⟩,⟨34359738368,68719476735,2^388,(2^5+2^387),1⟩,⟨103079215104,137438953471,2^389,(2^387+2^388),3⟩,⟨34359738368,68719476735,2^390,(2^41+2^387),0⟩,⟨446676598784,549755813887,2^391,(2^387+2^389+2^390),0⟩,⟨584115552256,1099511627775,2^392,(2^387+2^391),0⟩] 68996565157 [(0,1),(2,1),(1,2),(3,0),(4,0),(5,1),(7,1),(6,2),(8,0),(9,0),(10,0),(11,1),(13,0),(12,2),(14,2),(15,0),(16,0),(17,0),(18,1),(20,0),(21,0),(22,0),(23,1),(24,0),(19,2),(25,0),(26,0),(27,0),(28,1),(30,0),(29,2),(31,2),(32,0),(33,0),(34,0),(35,0),(36,1),(38,0),(37,3),(39,0),(40,0)] (by kernel_rfl) (by decide +kernel) (by kernel_rfl) (by kernel_rfl) (by decide +kernel) (by decide +kernel) (fun c a d v w h=>hPan.out c a d v w h) ?_
 refine zq1 Tryz.underlying32 ?_
 try refine zqP ?_
 refine zqL [_,_,_] Tryz.underlying34 ?_
 try refine zqP ?_
 refine zqD fun K hK=>?_;go_wp2_with ((go_at_call 33;(with_reducible refine (LS.out _ (by first|exact DN.out.z|exact DN.out.drew.z)).mono ?_);rintro e w13 ⟨rfl,hb13⟩;have DN:=hiq (by first|exact DN.out.later hb13|exact DN.out.drew.later hb13);have WN:=hiq (by first|exact WN.out.below hb13 WN.out.lt|exact WN.out.drew.below hb13 WN.out.drew.lt);have t5:=DN.out.b5.cell 0;have zt5:=DN.out.b5.lt;have t8:=DN.out.b8.cell 0;have zt8:=DN.out.b8.lt;have tw:=cells3 WN.out;have tw0:=tw.1;have tw1:=tw.2.1;have tw2:=tw.2.2;have ztw:=WN.out.lt;have ta:=cells3 DN.out.al;have ta0:=ta.1;have ta1:=ta.2.1;have ta2:=ta.2.2;have zta:=DN.out.al.lt;have th0:=DN.out.r.hd.cell 0;have th1:=DN.out.r.hd.cell 1;rw [←HBI.out] at th1;have zth:=DN.out.r.hd.lt;clear tw ta));refine hkA hK (h:=?_);clear hK K
 try refine zqP ?_;refine zqC ?_;refine zqC ?_
 first
  | (refine zqK ?_)
  | (refine zq1 Tryz.underlying32 ?_)
 try refine zqP ?_
 first
  | (refine zqK ?_)
  | (refine zqL [_,_,_] Tryz.underlying34 ?_)
 try refine zqP ?_
 first
  | (refine zqK ?_)
  | (refine zqD fun K hK=>?_;go_wp2_with ((go_at_call 34;(with_reducible refine (AM.out _ DN.out.z).mono ?_);rintro e w14 ⟨rfl,hb13⟩;have DN:=hiq (by first|exact DN.out.later hb13|exact DN.out.drew.later hb13);have WN:=hiq (by first|exact WN.out.below hb13 WN.out.lt|exact WN.out.drew.below hb13 WN.out.drew.lt);have t5:=DN.out.b5.cell 0;have zt5:=DN.out.b5.lt;have t8:=DN.out.b8.cell 0;have zt8:=DN.out.b8.lt;have tw:=cells3 WN.out;have tw0:=tw.1;have tw1:=tw.2.1;have tw2:=tw.2.2;have ztw:=WN.out.lt;have ta:=cells3 DN.out.al;have ta0:=ta.1;have ta1:=ta.2.1;have ta2:=ta.2.2;have zta:=DN.out.al.lt;have th0:=DN.out.r.hd.cell 0;have th1:=DN.out.r.hd.cell 1;rw [←HBI.out] at th1;have zth:=DN.out.r.hd.lt;clear tw ta));refine hkA hK (h:=?_);clear hK K)
 try refine zqP ?_
 first
  | (refine zqK ?_)
  | (refine zqA ?_)
 try refine zqP ?_;refine zqC ?_;refine zqC ?_
 first
  | (refine zqK ?_)
  | (refine zq1 Tryz.underlying28 ?_)
 try refine zqP ?_
 first
  | (refine zqK ?_)
  | (refine zqA ?_)
 try refine zqP ?_
 first
  | (refine zqK ?_)
  | (refine zqD fun K hK=>?_;go_wp2_with ((go_at_call 35;(with_reducible refine (LF.out _ DN.out.z).mono ?_);rintro e w15 ⟨rfl,hb13⟩;have DN:=hiq (by first|exact DN.out.later hb13|exact DN.out.drew.later hb13);have WN:=hiq (by first|exact WN.out.below hb13 WN.out.lt|exact WN.out.drew.below hb13 WN.out.drew.lt);have t5:=DN.out.b5.cell 0;have zt5:=DN.out.b5.lt;have t8:=DN.out.b8.cell 0;have zt8:=DN.out.b8.lt;have tw:=cells3 WN.out;have tw0:=tw.1;have tw1:=tw.2.1;have tw2:=tw.2.2;have ztw:=WN.out.lt;have ta:=cells3 DN.out.al;have ta0:=ta.1;have ta1:=ta.2.1;have ta2:=ta.2.2;have zta:=DN.out.al.lt;have th0:=DN.out.r.hd.cell 0;have th1:=DN.out.r.hd.cell 1;rw [←HBI.out] at th1;have zth:=DN.out.r.hd.lt;clear tw ta));refine hkA hK (h:=?_);clear hK K)
 try refine zqP ?_
 first
  | (refine zqK ?_)
  | (refine zqD fun K hK=>?_;go_wp2_with ((go_at_call 24;(with_reducible refine (LM.out _ DN.out.r).mono ?_);rintro e w16 ⟨rfl,hb13⟩;have DN:=hiq (by first|exact DN.out.later hb13|exact DN.out.drew.later hb13);have WN:=hiq (by first|exact WN.out.below hb13 WN.out.lt|exact WN.out.drew.below hb13 WN.out.drew.lt);have t5:=DN.out.b5.cell 0;have zt5:=DN.out.b5.lt;have t8:=DN.out.b8.cell 0;have zt8:=DN.out.b8.lt;have tw:=cells3 WN.out;have tw0:=tw.1;have tw1:=tw.2.1;have tw2:=tw.2.2;have ztw:=WN.out.lt;have ta:=cells3 DN.out.al;have ta0:=ta.1;have ta1:=ta.2.1;have ta2:=ta.2.2;have zta:=DN.out.al.lt;have th0:=DN.out.r.hd.cell 0;have th1:=DN.out.r.hd.cell 1;rw [←HBI.out] at th1;have zth:=DN.out.r.hd.lt;clear tw ta));refine hkA hK (h:=?_);clear hK K)
 try refine zqP ?_
 first
  | (refine zqK ?_)
  | (refine zqA ?_)
 try refine zqP ?_;refine zqC ?_;refine zqC ?_
 first
  | (refine zqK ?_)
  | (refine zq1 Tryz.underlying28 ?_)
 try refine zqP ?_
 first
  | (refine zqK ?_)
  | (refine zqA ?_)
 try refine zqP ?_
 first
  | (refine zqK ?_)
  | (refine zqA ?_)
 try refine zqP ?_
 first
  | (refine zqK ?_)
  | (refine zqA ?_)
 try refine zqP ?_
 first
  | (refine zqK ?_)
  | (refine zq1 Tryz.underlying3 ?_)
 try refine zqP ?_
 first
  | (refine zqK ?_)
  | (refine zqA ?_)
 try refine zqP ?_
 first
  | (refine zqK ?_)
  | (refine zqD fun K hK=>?_;go_wp2_with ((go_at_call 36;(with_reducible refine (RD.out _ DN.out.z).mono ?_);rintro e w' ⟨rfl,rfl⟩));refine hkA hK (h:=?_);clear hK K)
 try refine zqP ?_
 first
  | (refine zqK ?_)
  | (refine zqA ?_)
 try refine zqP ?_;refine zqC ?_;refine zqC ?_
 first
  | (refine zqK ?_)
  | (refine zq1 Tryz.underlying28 ?_)
 try refine zqP ?_
 first
  | (refine zqK ?_)
  | (refine zqA ?_)
 try refine zqP ?_
 first
  | (refine zqK ?_)
  | (refine zqD fun K hK=>?_;go_wp2_with ((go_at_call 37;(with_reducible refine (LN.out _ DN.out.z).mono ?_);rintro e w17 ⟨rfl,hb13⟩;have DN:=hiq (by first|exact DN.out.later hb13|exact DN.out.drew.later hb13);have WN:=hiq (by first|exact WN.out.below hb13 WN.out.lt|exact WN.out.drew.below hb13 WN.out.drew.lt);have t5:=DN.out.b5.cell 0;have zt5:=DN.out.b5.lt;have t8:=DN.out.b8.cell 0;have zt8:=DN.out.b8.lt;have tw:=cells3 WN.out;have tw0:=tw.1;have tw1:=tw.2.1;have tw2:=tw.2.2;have ztw:=WN.out.lt;have ta:=cells3 DN.out.al;have ta0:=ta.1;have ta1:=ta.2.1;have ta2:=ta.2.2;have zta:=DN.out.al.lt;have th0:=DN.out.r.hd.cell 0;have th1:=DN.out.r.hd.cell 1;rw [←HBI.out] at th1;have zth:=DN.out.r.hd.lt;clear tw ta));refine hkA hK (h:=?_);clear hK K)
 try refine zqP ?_
 first
  | (refine zqK ?_)
  | (refine zqD fun K hK=>?_;go_wp2_with ((go_at_call 21;(with_reducible refine (AA.out _ DN.out.r).mono ?_);rintro e w18 ⟨v,rfl,hrA,hb13⟩;have RA:=readsEnts_own hrA;obtain ⟨ra,rcap,rfl,-⟩:=RA;clear hrA;have DN:=hiq (by first|exact DN.out.later hb13|exact DN.out.drew.later hb13);have WN:=hiq (by first|exact WN.out.below hb13 WN.out.lt|exact WN.out.drew.below hb13 WN.out.drew.lt);have t5:=DN.out.b5.cell 0;have zt5:=DN.out.b5.lt;have t8:=DN.out.b8.cell 0;have zt8:=DN.out.b8.lt;have tw:=cells3 WN.out;have tw0:=tw.1;have tw1:=tw.2.1;have tw2:=tw.2.2;have ztw:=WN.out.lt;have ta:=cells3 DN.out.al;have ta0:=ta.1;have ta1:=ta.2.1;have ta2:=ta.2.2;have zta:=DN.out.al.lt;have th0:=DN.out.r.hd.cell 0;have th1:=DN.out.r.hd.cell 1;rw [←HBI.out] at th1;have zth:=DN.out.r.hd.lt;clear tw ta));refine hkA hK (h:=?_);clear hK K)
 try refine zqP ?_
 first
  | (refine zqK ?_)
  | (refine zqA ?_)
 try refine zqP ?_
 first
  | (refine zqK ?_)
  | (refine zqA ?_)
 try refine zqP ?_;refine zqC ?_;refine zqC ?_
 first
  | (refine zqK ?_)
  | (refine zq1 Tryz.underlying28 ?_)
 try refine zqP ?_
 first
  | (refine zqK ?_)
  | (refine zqA ?_)
 try refine zqP ?_
 first
  | (refine zqK ?_)
  | (refine zqE fun K hK=>?_;go_wp2_with ((go_at_call 38;(with_reducible refine (GR.out _ DN.out.z).mono ?_);rintro e w' ⟨rfl,rfl⟩));refine hK.out _ _ ?_;clear hK K)
 try refine zqP ?_
 first
  | (refine zqK ?_)
  | (refine zqA ?_)
 try refine zqP ?_;refine zqC ?_
 refine seq_nil ?_
 go_wp2
 exact HQ.out _ _ _ _ _ _ _ _ _ _ _ _ _ _ _ _ _ _ _ _ _ _ _ _ _ _ _ _ _ _ _ _ _ _ _ _ _ _ _ _ _ _ _ _ _ _ _ _ _ _ _ _ _ _ _ _ _ _ _ _ _ _ _ _ (by have h:=DN.out;rw [hP.out,hlk.out] at h;exact h)
end Go.Proofs.YtcnkgiapidlbkaaGreatDoor
namespace Go.Proofs.YtcnkgiapidlbkaaGreatDoor
open Go.RowKit Go.Proofs
attribute [local go_sem] neq_nilG eql_nilG
theorem dualActs_any (old new depth:Int) (v1 v2 v3:Value) (n1 n2 n3:Nat) (f1 f2 f3:Nat→Nat→Int) (E:Nat→Addr) (w0:World) (he:ErrsAre w0 E) (hT:Tab64 w0) (h1:RowsAt w0 v1 n1 1 .u64 f1) (h2:RowsAt w0 v2 n2 1 .i64 f2) (h3:RowsAt w0 v3 n3 3 .i64 f3) :
 Calls Tryz.prog 3 #[.agg (caseD old new depth v1 v2),v3] w0 fun e w'=>e = .returned (.bool true)∧Below w0.heap.size w0 w':=by
 have m2:=h2.2.2
 have m3:=h3.2.2
 unfold maxLen at m2 m3
 have HE:=hiq he
 have HEC:=hiq (show EC w0 E [1,2,4,5,14,16] from he.ec.sub (by decide))
 have HT:=hiq hT
 have AL:=hiq (fun (w':World) (hb':Below w0.heap.size w0 w')=>alive13_any E w' (HEC.out.below hb') (hT.below hb'))
 obtain ⟨a2,cap2,rfl,hx2⟩:=h2.cellAt (by decide)
 obtain ⟨a3,cap3,rfl,hx3⟩:=h3.cellAt (by decide)
 have HX2:=hiq hx2
 have HX3:=hiq hx3
 clear he hT h2 h3 hx2 hx3
 by_cases hs:¬ShortD old new n1 n2
 · obtain ⟨a1,cap1,rfl,-⟩:=h1.cellAt (by decide)
   have LG:=hiq (fun (w':World)=>long13_any old new depth a1 a2 n1 n2 cap1 cap2 w')
   rw [decide_eq_false hs] at LG
   have CB:=hiq (Blk.new w0 25 #[.int .i64 old,.int .i64 new,.int .i64 depth,.slice a1 n1 cap1,.slice a2 n2 cap2])
   clear hs h1 HX2 HX3
   unfold caseD at LG ⊢
   go_enter Tryz.func3,Tryz.ntmps3
   go_wp2_with (first
    | (go_at_call 5;(with_reducible refine (AL.out _ ((Below.refl _ _).alloc (Nat.le_refl _) _)).mono ?_);rintro e w1 ⟨rfl,hb1⟩;have C1:=hiq (CB.out.below hb1 CB.out.lt);have c1:=cased_cells C1.out;have c10:=c1.1;have c11:=c1.2.1;have c12:=c1.2.2.1;have c13:=c1.2.2.2.1;have c14:=c1.2.2.2.2.1;have zc1:=C1.out.lt;clear c1)
    | (go_at_call 6;(with_reducible refine (LG.out _).mono ?_);rintro e w2 ⟨rfl,hb2⟩))
   go_ret
   exact ⟨rfl,((show Below w0.heap.size w0 _ by go_grown).trans (hb1.mono (by simp))).trans (hb2.mono (by have:=hb1.size;simp at this;omega))⟩
 have hs:=Classical.not_not.1 hs
 have LG0:=hiq (fun (a1:Option Addr) (cap1:Nat) (w':World)=>long13_any old new depth a1 a2 n1 n2 cap1 cap2 w')
 rw [decide_eq_true hs] at LG0
 obtain ⟨k1,k2,k3,k5,k7,k8⟩:=hs
 obtain ⟨b1,o1,cap1,G,rfl,hb1z,hG,hc1⟩:=hashes_of h1 k1
 have LG:=hiq (LG0.out (some ⟨b1,o1,none⟩) cap1)
 have CB:=hiq (Blk.new w0 25 #[.int .i64 old,.int .i64 new,.int .i64 depth,.slice (some ⟨b1,o1,none⟩) n1 cap1,.slice a2 n2 cap2])
 obtain ⟨g,rfl⟩:=Int.eq_ofNat_of_zero_le (show 0≤old by rw [rightB_iff] at k5;omega)
 have hgb:=right_bd k5
 have HG:=hiq hG
 have HC:=hiq hc1
 have HK5:=hiq k5
 have MD:=hiq (fun (w':World) (hw':Below w0.heap.size w0 w')=>made13_any g n1 n2 new depth b1 o1 cap1 cap2 a2 G f2 E w0 w' k1 k2 k3 HK5.out HE.out HT.out hw' hb1z HG.out HC.out HX2.out)
 clear LG0 h1 hG hc1 k5 k8
 by_cases g1:120<n3
 · have g1I:(120:Int)<(n3:Int):=by omega
   unfold caseD at LG ⊢
   go_enter Tryz.func3,Tryz.ntmps3
   go_wp2_with (first
    | (go_at_call 5;(with_reducible refine (AL.out _ ((Below.refl _ _).alloc (Nat.le_refl _) _)).mono ?_);rintro e w1 ⟨rfl,hb1⟩;have C1:=hiq (CB.out.below hb1 CB.out.lt);have c1:=cased_cells C1.out;have c10:=c1.1;have c11:=c1.2.1;have c12:=c1.2.2.1;have c13:=c1.2.2.2.1;have c14:=c1.2.2.2.2.1;have zc1:=C1.out.lt;clear c1)
    | (go_at_call 6;(with_reducible refine (LG.out _).mono ?_);rintro e w2 ⟨rfl,hb2⟩))
   go_ret
   exact ⟨rfl,((show Below w0.heap.size w0 _ by go_grown).trans (hb1.mono (by simp))).trans (hb2.mono (by have:=hb1.size;simp at this;omega))⟩
 have g1I:(n3:Int)≤120:=by omega
 have d1:decide ((120:Int)<(n3:Int))=false:=by simp;omega
 have HHb:=hiq (show ∀q,hashH n1 G q<18446744073709551616 from hashH_lt k1 HG.out)
 obtain ⟨H,hH⟩:=exq (hashH n1 G)
 have HH:=hiq (show ∀x,x<n1→H (x:Int)=G x from fun x hx=>by rw [hH];exact hashH_in hx)
 rw [←hH] at HHb MD
 clear hH
 have EN:=hiq (fun (q val:Int) (w':World) (hw':Below w0.heap.size w0 w')=>entry13_any (g:Int) new depth (.slice a2 n2 cap2) b1 o1 n1 cap1 k1 (by omega) G q val w' (Nat.lt_of_lt_of_le hb1z hw'.size) (HC.out w' hw') rfl)
 unfold caseD at LG EN MD ⊢
 go_enter Tryz.func3,Tryz.ntmps3
 go_upto_region 5 with (first
  | (go_at_call 5;(with_reducible refine (AL.out _ ((Below.refl _ _).alloc (Nat.le_refl _) _)).mono ?_);rintro e w1 ⟨rfl,hb1⟩;have C1:=hiq (CB.out.below hb1 CB.out.lt);have c1:=cased_cells C1.out;have c10:=c1.1;have c11:=c1.2.1;have c12:=c1.2.2.1;have c13:=c1.2.2.2.1;have c14:=c1.2.2.2.2.1;have zc1:=C1.out.lt;clear c1)
  | (go_at_call 6;(with_reducible refine (LG.out _).mono ?_);rintro e w2 ⟨rfl,hb2⟩;have C2:=hiq (C1.out.below hb2 C1.out.lt);have c1:=cased_cells C2.out;have c20:=c1.1;have c21:=c1.2.1;have c22:=c1.2.2.1;have c23:=c1.2.2.2.1;have c24:=c1.2.2.2.2.1;have zc2:=C2.out.lt;have B2:=hiq (((show Below w0.heap.size w0 _ by go_grown).trans (hb1.mono (by simp))).trans (hb2.mono (by have:=hb1.size;simp at this;omega)));clear c1))
 by_cases hok:¬ (rightB new=true∧depth≤15)
 · have MB:=hiq (fun (w':World) (hw':Below w0.heap.size w0 w')=>(calls_one (c2:=True) (MD.out w' hw')).1 hok)
   clear hok MD
   go_wp2_with (go_at_call 7;(with_reducible refine (MB.out _ B2.out).mono ?_);rintro e w3 ⟨rfl,hb3⟩)
   go_ret
   exact ⟨rfl,(B2.out.trans (hb3.mono B2.out.size)).alloc (B2.out.trans (hb3.mono B2.out.size)).size _⟩
 have hok:=Classical.not_not.1 hok
 have MG:=hiq (fun (w':World) (hw':Below w0.heap.size w0 w')=>(calls_one (c2:=True) (MD.out w' hw')).2 hok)
 obtain ⟨hrn,hdp⟩:=hok
 obtain ⟨gn,rfl⟩:=Int.eq_ofNat_of_zero_le (show 0≤new by rw [rightB_iff] at hrn;omega)
 have hgnb:=right_bd hrn
 have HRN:=hiq hrn
 simp only [Int.toNat_natCast] at MG
 clear MD hrn
 go_upto_region 10 with (go_at_call 7;((with_reducible refine (MG.out _ B2.out).mono ?_);rintro e w3 ⟨a,Rb,X,gt,tcap,k,d,p0,pt,T,rfl,hk,hF,hTn,hM⟩;have M3:=hiq hM;have C3:=hiq (C2.out.below hM.b C2.out.lt);have KT:=hiq hF;have KN:=hiq hTn;have HK:=hiq hk;clear hM hF hTn hk))
 refine wp_at (fun w4 hw4=>?_)
 obtain ⟨C,hC⟩:=exq w0.heap.size
 obtain ⟨B5,hB5⟩:=exq w3.heap.size
 obtain ⟨M,hM⟩:=exq (B5+1)
 obtain ⟨B8,hB8⟩:=exq (M+1)
 obtain ⟨AL,hAL⟩:=exq (B8+1)
 have hb34:Below w3.heap.size w3 w4:=by rw [hw4];go_grown
 have hz4:w4.heap.size=AL+1:=by rw [hw4,hAL,hB8,hM,hB5];simp
 have zB2:=B2.out.size
 have zC2:C<w2.heap.size:=by rw [hC];exact C2.out.lt
 have z23:=M3.out.b.size
 have ORD:C<B5∧B5<M∧M<B8∧B8<AL∧AL<w4.heap.size∧w0.heap.size≤C∧w2.heap.size≤B5:=by omega
 obtain ⟨cs,hcs⟩:∃cs,cs=caseD (g:Int) (gn:Int) depth (.slice (some ⟨b1,o1,none⟩) n1 cap1) (.slice a2 n2 cap2):=⟨_,rfl⟩
 have HCS:=hiq hcs
 have HAG:=hiq (show AL≠gt from by have:=M3.out.z gt (.inr rfl);omega)
 have A4:=hiq (show DAs w4 C B5 B8 AL (a 0) M Rb X gt tcap p0 pt (DuS.newS k d gn T) MeterS.zero (KA C B5 B8 AL Rb X gt p0 pt k) 0 (fun _=>0) 0 0 0 cs E w0 from by
  have hz:∀b,DMX Rb X p0 pt k b∨b=gt→w2.heap.size≤b∧b<w3.heap.size:=M3.out.z
  have hm4:Blk w4 M 36 MeterS.zero.cells:=by
   rw [hw4,hM,hB5];simp only [MeterS.zero,MeterS.cells];exact ((Blk.new_at (by simp)).alloc _).alloc _
  have h5:Blk w4 B5 28 #[.pointer (some ⟨a 0,0,none⟩)]:=by rw [hw4,hB5];exact (((Blk.new _ _ _).alloc _).alloc _).alloc _
  have h8:Blk w4 B8 32 #[.pointer (some ⟨M,0,none⟩)]:=by rw [hw4,hB8,hM,hB5];exact (Blk.new_at (by simp)).alloc _
  have h9:Blk w4 AL 34 #[.int .i64 0,.int .i64 0,.int .i64 0]:=by rw [hw4,hAL,hB8,hM,hB5];exact Blk.new_at (by simp)
  have hc4:Blk w4 C 25 cs:=by rw [hC,hcs];exact C3.out.below hb34 C3.out.lt
  have hlt:∀b,DuX a (DuS.newS k d gn T) b→b<w3.heap.size:=fun b hb=>(M3.out.v.xlt hb).1
  refine ⟨D1s.mk (M3.out.v.later hb34) hm4 rfl ⟨by omega,?_⟩ (fun b hb=>?_) (fun b hb=>?_),M3.out.m.later hb34,hc4,h5,h8,h9,fun b hb=>hb,⟨⟨fun e=>?_,fun e=>?_,fun e=>?_,fun e=>?_⟩,by omega,by omega,by omega,by omega,fun b hb=>?_⟩⟩
  · rintro (e|e|e|e|e|e)
    · omega
    · omega
    · omega
    · omega
    · have:=hz _ (.inl e);omega
    · have:=hz _ (.inr e);omega
  · obtain ⟨a1,a2'⟩:=M3.out.ap b hb
    have:=hlt b hb
    refine ⟨by omega,?_⟩
    rintro (e|e|e|e|e|e)
    · omega
    · omega
    · omega
    · omega
    · exact a2' (.inl e)
    · exact a2' (.inr e)
  · rcases hb with e|e|e|e|e|e
    · omega
    · omega
    · omega
    · omega
    · have:=hz _ (.inl e);omega
    · have:=hz _ (.inr e);omega
  · have:=hz _ (.inl e);omega
  · have:=hz _ (.inl e);omega
  · have:=hz _ (.inl e);omega
  · have:=hz _ (.inl e);omega
  · have:=hz _ (.inl hb);exact ⟨by omega,by omega⟩)
 have HY0:=hiq (show DuCt (DuS.newS k d gn T) H 112 from DuCt.new HK.out HRN.out KT.out (by have:=KT.out.load;have:=KT.out.good.bounds;have:=KN.out;omega))
 simp only [←hC,←hB5,←hM,←hB8,←hAL]
 replace hw4:=hiq hw4
 replace hC:=hiq hC
 replace hB5:=hiq hB5
 replace hM:=hiq hM
 replace hB8:=hiq hB8
 replace hAL:=hiq hAL
 obtain ⟨D,hD⟩:=exq (a 0)
 rw [←hD] at A4 ⊢
 replace hD:=hiq hD
 obtain ⟨s0,hs0⟩:=exq (DuS.newS k d gn T)
 rw [←hs0] at A4 HY0
 have HSK:=hiq (show s0.k=k∧s0.gn=gn∧s0.T.n=g from by rw [hs0];exact ⟨rfl,rfl,KN.out⟩)
 clear hz4 hcs hb34 zB2 zC2 z23 hs0 B2 C1 C2 C3 M3 c10 c11 c12 c13 c14 zc1 c20 c21 c22 c23 c24 zc2 hb1 hb2 MG LG CB d1
 go_wp2
 go_loopg [70] n3 (fun gk v70 wr => ∃ (j:Nat) (s:DuS) (mt:MeterS) (L0:Int) (Lc:Nat→Int) (q0 q1 q2 l0 l1 l2:Int),j+gk=n3∧v70 = .int .i64 (j:Int)∧DAs wr C B5 B8 AL D M Rb X gt tcap p0 pt s mt (KA C B5 B8 AL Rb X gt p0 pt k) L0 Lc q0 q1 q2 cs E w0∧DuCt s H (112+(j:Int))∧(s.k=k∧s.gn=gn∧s.T.n=g)∧Cnt mt q0 q1 q2 l0 l1 l2∧
  (0≤q0∧0≤q1∧0≤q2∧q0≤10000*(j:Int)∧q1≤10000*(j:Int)∧q2≤10000*(j:Int))∧(0≤L0∧L0≤10000*(j:Int))∧∀i,i<k→0≤Lc i∧Lc i≤10000*(j:Int))
 case atStart=>exact ⟨0,s0,_,_,_,0,0,0,0,0,0,by omega,rfl,A4.out,by simpa using HY0.out,HSK.out,⟨rfl,rfl,rfl,rfl,rfl,rfl⟩,by omega,by omega,fun i hi=>by omega⟩
 case round =>
  clear A4 HY0 HSK
  obtain ⟨j,s,mt,L0,Lc,q0,q1,q2,l0,l1,l2,hj,rfl,hD,hY,hsk,hCn,hq,hL0,hLc⟩:=hrel
  have HD:=hiq hD
  have HY:=hiq hY
  have HSK:=hiq hsk
  have HCN:=hiq hCn
  have HLC:=hiq hLc
  have BD:=hiq hD.z.bel
  have hcc:=hD.c
  rw [HCS.out] at hcc
  have KC0:=hiq hcc
  obtain ⟨r0,r1,r2,r3,r4,zC⟩:=cased_cells hcc
  obtain ⟨wO,hwO⟩:=exq wr
  subst hwO
  obtain ⟨ga,hga⟩:=exq gk
  subst hga
  clear hD hY hsk hCn hLc hcc
  by_cases hlt:j<n3
  · have hltI:(j:Int)<(n3:Int):=by omega
    obtain ⟨ab,ao,rfl,haz,hac⟩:=HX3.out (by omega)
    have t0:wO.cell? ⟨ab,ao+j*3,none⟩=some (.int .i64 (f3 j 0)):=by simpa using hac wO BD.out j hlt 0 (by decide)
    have t1:wO.cell? ⟨ab,ao+j*3+1,none⟩=some (.int .i64 (f3 j 1)):=by simpa [Nat.add_assoc] using hac wO BD.out j hlt 1 (by decide)
    have t2:wO.cell? ⟨ab,ao+j*3+2,none⟩=some (.int .i64 (f3 j 2)):=by simpa [Nat.add_assoc] using hac wO BD.out j hlt 2 (by decide)
    have haz2:ab<wO.heap.size:=Nat.lt_of_lt_of_le haz BD.out.size
    generalize f3 j 0=kd at t0
    generalize f3 j 1=ky at t1
    generalize f3 j 2=vN at t2
    have hxk:=keyI_lt ky n1 k1
    have EQ:=hiq (EN.out ky (valI vN))
    have hv0:IntKind.u64.wrap vN=valI vN:=rfl
    have hvb:=wrap_u64_bd vN
    rw [hv0] at hvb
    generalize keyI ky n1=x at *
    generalize valI vN=vv at *
    have hGx:=HG.out x hxk
    have hHx:=HH.out x hxk
    obtain ⟨h,hh⟩:=exq (G x)
    rw [←hh] at EQ hGx hHx
    have HHx:=hiq hHx
    have hsl:0≤L0∧L0≤1000000000:=by omega
    have LK:=hiq (fun (w':World) (h':DAs w' C B5 B8 AL D M Rb X gt tcap p0 pt s mt (KA C B5 B8 AL Rb X gt p0 pt k) L0 Lc q0 q1 q2 cs E w0)=>rlooks_any h'.r.r hsl (fun i hi=>by have:=HLC.out i (by rw [←HSK.out.1];exact hi);omega))
    obtain ⟨bf,hbf⟩:=exq (L0+sumI Lc s.k)
    rw [←hbf] at LK
    have HBF:=hiq hbf
    clear hac hh hHx haz hbf
    go_upto_block 2 with (first
     | (go_at_call 8;(with_reducible refine (EQ.out _ (BD.out.trans ((Below.refl _ _).alloc BD.out.size _))).mono ?_);rintro e w5 ⟨rfl,hb5⟩;have z5:=hb5.size;have B5':=hiq (((Below.refl wO.heap.size wO).alloc (Nat.le_refl _) (.cells #[.int .i64 kd,.int .i64 ky,.int .i64 vN] 38)).trans (hb5.mono (by simp)));have A5:=hiq ((Blk.new wO 38 #[.int .i64 kd,.int .i64 ky,.int .i64 vN]).below hb5 (by simp));have D5:=hiq ((HD.out.later B5'.out).later ((Below.refl _ _).alloc (Nat.le_refl _) (.cells #[.int .u64 (x:Int),.int .u64 vv,.int .u64 (h:Int)] 41)));have d50:=D5.out.r.hd.cell 0;have zd5:=D5.out.r.hd.lt;have m50:=D5.out.b8.cell 0;have zm5:=D5.out.b8.lt)
     | (go_at_call 9;(with_reducible refine (LK.out _ D5.out).mono ?_);rintro e w' ⟨rfl,rfl⟩)
     | (go_at_call 10;(with_reducible refine (meterReset_any mt M _ _ D5.out.z.m).mono ?_);rintro e w6 ⟨rfl,hm6,hc6⟩;have M6:=hiq hm6;have C6:=hiq hc6;have z6:=hc6.size;have a60:=(((A5.out.alloc (.cells #[.int .u64 (x:Int),.int .u64 vv,.int .u64 (h:Int)] 41)).chg hc6 (show ¬wO.heap.size=M from by have:=HD.out.z.m.lt;omega))).cell 0;have za60:=(((A5.out.alloc (.cells #[.int .u64 (x:Int),.int .u64 vv,.int .u64 (h:Int)] 41)).chg hc6 (show ¬wO.heap.size=M from by have:=HD.out.z.m.lt;omega))).lt;clear hm6 hc6))
    refine wp_at (fun w7 hw7=>?_)
    obtain ⟨A,hA⟩:=exq wO.heap.size
    obtain ⟨EB,hEB⟩:=exq w5.heap.size
    obtain ⟨W,hW⟩:=exq w6.heap.size
    obtain ⟨mt0,hmt0⟩:∃mt0:MeterS,mt0 = { mt with l0:=0,l1:=0,l2:=0}:=⟨_,rfl⟩
    rw [←hmt0] at M6
    simp only [World.size_alloc] at z5 z6
    have hMz:=HD.out.z.m.lt
    have b67:Below w6.heap.size w6 w7:=by rw [hw7];exact (Below.refl _ _).alloc (Nat.le_refl _) _
    have z7:w7.heap.size=w6.heap.size+1:=by rw [hw7];simp
    have hCN0:=hiq (show Cnt mt0 q0 q1 q2 0 0 0 from by rw [hmt0];exact HCN.out.reset)
    obtain ⟨K',hK'⟩:∃K':Nat→Prop,K'=fun b=>KA C B5 B8 AL Rb X gt p0 pt k b∨b=A∨b=EB∨b=W:=⟨_,rfl⟩
    have D7:=hiq (show DAs w7 C B5 B8 AL D M Rb X gt tcap p0 pt s mt0 K' L0 Lc q0 q1 q2 cs E w0 from by
     have hb1:Below wO.heap.size wO (w5.alloc (.cells #[.int .u64 (x:Int),.int .u64 vv,.int .u64 (h:Int)] 41)):=B5'.out.alloc B5'.out.size _
     have h1:=HD.out.keep (K':=fun b=>KA C B5 B8 AL Rb X gt p0 pt k b∨b=A∨b=EB) hb1 (fun b e=>by
      rcases e with e|e|e
      · exact .inl e
      · exact .inr ⟨by omega,by simp;omega⟩
      · exact .inr ⟨by omega,by simp;omega⟩) (fun b e => .inl (by rw [←HSK.out.1];exact e))
     have h2:=h1.meter M6.out (by rw [hmt0]) C6.out
     refine h2.keep b67 (fun b e=>?_) (fun b e=>by rw [hK'];exact .inl (by rw [←HSK.out.1];exact e))
     rw [hK'] at e
     rcases e with e|e|e|e
     · exact .inl (.inl e)
     · exact .inl (.inr (.inl e))
     · exact .inl (.inr (.inr e))
     · exact .inr ⟨by omega,by omega⟩)
    have A7:=hiq (show Blk w7 A 38 #[.int .i64 kd,.int .i64 ky,.int .i64 vN] by rw [hA];exact (((A5.out.alloc _).chg C6.out (by omega)).below b67 (by have:=A5.out.lt;omega)))
    have E7:=hiq (show Blk w7 EB 41 #[.int .u64 (x:Int),.int .u64 vv,.int .u64 (h:Int)] by rw [hEB];exact (((Blk.new w5 _ _).chg C6.out (by omega)).below b67 (by omega)))
    have W7:=hiq (show Blk w7 W 34 #[.int .i64 0,.int .i64 0,.int .i64 0] by rw [hw7,hW];exact Blk.new _ _ _)
    have HKK':=hiq (show K' A∧K' EB∧K' W∧∀b,KA C B5 B8 AL Rb X gt p0 pt k b→K' b from by rw [hK'];exact ⟨.inr (.inl rfl),.inr (.inr (.inl rfl)),.inr (.inr (.inr rfl)),fun b e => .inl e⟩)
    have NX:=hiq (show ∀b,DMX Rb X p0 pt k b→b≠A∧b≠EB∧b≠W from fun b e=>by
     have:=HD.out.r.lt b (by rw [HSK.out.1];exact e);omega)
    have hWW:w0.heap.size≤W∧AL≠W∧A≠W∧EB≠W:=by have:=BD.out.size;have:=HD.out.al.lt;omega
    have HWK:=hiq (show ¬KA C B5 B8 AL Rb X gt p0 pt s.k W from by
     have h1:=HD.out.c.lt
     have h2:=HD.out.b5.lt
     have h3:=HD.out.b8.lt
     have h4:=HD.out.al.lt
     have h5:=HD.out.r.r.v.lt
     have h6:=HD.out.r.lt W
     rintro (e|e|e|e|e|e)
     · omega
     · omega
     · omega
     · omega
     · have:=h6 e;omega
     · omega)
    have HWK2:=hiq (show ¬KA C B5 B8 AL Rb X gt p0 pt s.stp.k W from by rw [(stp_k s).1];exact HWK.out)
    rw [←hA,←hEB,←hW]
    replace hw7:=hiq hw7
    replace hA:=hiq hA
    replace hEB:=hiq hEB
    replace hW:=hiq hW
    clear hK' hmt0 z5 z6 z7 hMz b67 M6 C6 A5 D5 B5' hb5 d50 zd5 m50 zm5 a60 za60 t0 t1 t2 haz2 r0 r1 r2 r3 r4 zC HD HCN LK EQ
    have F:=hiq (show DaIn w0 w7 C B5 B8 AL D M Rb X gt tcap A EB W p0 pt s mt0 K' L0 Lc q0 q1 q2 bf cs E k gn g j x h kd ky vN vv H from
     ⟨D7.out,A7.out,E7.out,W7.out,HKK'.out,NX.out,HWK.out,hWW,HSK.out,HY.out,HHx.out,hGx,HHb.out,hCN0.out,hq,hL0,HLC.out,HBF.out,HE.out,hv0,⟨by omega,by omega⟩,by omega,HAG.out⟩)
    refine daK F.out rfl ?_ (hiq (fun c a d v w h=>by cases d <;> exact h)) ?_
    · intro s' mt' L0' Lc' bf' p' v' u' ut4 ut15 ut16 ut17 ut18 ut19 ut20 ut21 ut22 ut23 ut24 ut25 ut26 ut27 ut28 ut29 ut30 ut31 ut32 ut33 ut34 ut35 ut36 ut37 ut38 ut39 ut40 ut91 ut92 ut93 ut94 ut95 ut96 ut97 ut98 ut99 ut100 ut101 ut102 ut103 ut104 ut105 ut106 ut107 ut108 ut109 ut110 ut111 ut112 ut113 ut114 ut115 ut116 ut117 ut118 ut119 ut120 ut121 ut122 ut123 ut124 ut125 ut126 ut127 ut128 ut129 ut130 ut131 ut132 ut133 ut134 ut135 ut136 ut137 ut138 ut139 ut140 ut141 ut142 ut143 ut144 ut145 ut146 ut147 ut148 ut149 ut150 ut151 ut152 ut153 ut154 ut155 ut156 ut157 ut158 ut159 ut160 ut161 ut162 ut163 ut164 ut165 ut166 ut167 ut168 ut169 ut170 ut171 ut172 ut173 ut174 ut175 ut176 ut177 ut178 ut179 ut180 ut181 ut182 ut183 ut184 ut185 ut186 ut187 ut188 ut189 ut190 ut191 ut192 ut193 ut194 ut195 ut196 ut197 ut198 ut199 ut200 ut201 ut202 ut203 ut204 ut205 ut206 ut207 ut208 ut209 ut210 ut211 ut212 ut213 ut214 ut215 ut216 ut217 ut218 ut219 ut220 ut221 ut222 ut223 ut224 ut225 ut226 ut227 ut228 ut229 ut230 ut231 ut232 ut233 ut234 ut235 ut236 ut237 ut238 ut239 ut240 ut241 ut242 ut243 ut244 ut245 ut246 ut247 ut248 ut249 ut250 ut251 ut252 ut253 ut254 ut255 ut256 ut257 ut258 ut259 ut260 ut261 ut262 ut263 ut264 ut265 ut266 ut267 ut268 ut269 ut270 ut271 ut272 ut273 ut274 ut275 ut276 ut277 ut278 ut279 ut280 ut281 ut282 ut283 ut284 ut285 ut286 ut287 ut288 ut289 ut290 ut291 ut292 ut293 ut294 ut295 ut296 ut297 ut298 ut299 ut300 ut301 ut302 ut303 ut304 ut305 ut306 ut307 ut308 ut309 ut310 ut311 ut312 ut313 ut314 ut315 ut316 ut317 ut318 ut319 ut320 ut321 ut322 ut323 ut324 ut325 ut326 ut327 ut328 ut329 ut330 ut331 ut332 wc hcut
      obtain ⟨-,-,hy9,hsk9,hcn9,hbP,hbp,hbv,hbu,hbb,hbL,hlc9⟩:=id hcut
      have HY9:=hiq hy9
      have HSK9:=hiq hsk9
      have HCN9:=hiq hcn9
      have HLC9:=hiq hlc9
      clear hy9 hsk9 hcn9 hlc9
      go_step
      go_step
      refine daRestT hcut HKK'.out.2.2.1 (by rw [←HSK.out.1];exact HWK.out) ⟨hWW.1,hWW.2.1⟩ HAG.out (by omega) hq hL0 _ _ _ _ _ _ _ _ _ _ _ _ _ _ _ _ _ _ _ _ _ _ _ _ _ _ _ _ _ _ _ _ _ _ _ _ _ _ _ _ _ _ _ _ _ _ _ _ _ _ _ _ _ _ _ _ _ _ _ _ _ _ _ _ _ _ _ _ _ _ _ _ _ _ _ _ _ _ _ _ _ _ _ _ _ _ _ _ _ _ _ _ _ _ _ _ _ _ _ _ _ _ _ _ _ _ _ _ _ _ _ _ _ _ _ _ _ _ _ _ _ _ _ _ _ _ _ _ _ _ _ _ _ _ _ _ _ _ _ _ _ _ _ _ _ _ _ _ _ _ _ _ _ _ _ _ _ _ _ _ _ _ _ _ _ _ _ _ _ _ _ _ _ _ _ _ _ _ _ _ _ _ _ _ _ _ _ _ _ _ _ _ _ _ _ _ _ _ _ _ _ _ _ _ _ _ _ _ _ _ _ _ _ _ _ _ _ _ _ _ _ _ _ _ _ _ _ _ _ _ _ _ _ _ _ _ _ _ _ _ _ _ _ _ _ _ _ _ _ _ _ _ _ _ _ _ _ _ _ _ _ _ _ _ _ _ _ _ _ _ _ _ _ _ _ _ _ _ _ _ _ _ _ _ _ _ _ _ _ _ _ _ _ _ _ _ _ _ _ _ _ _ _ _ _ _ _ _ _ _ _ _ _ _ _ _ _ _ _ _ _ _ _ _ _ _ _ _ _ _ _ _ _ _ _ _ _ _ _ _ _ _ _ _ _ _ _ _ _ _ _ _ _ _ _ _ _ _ _ _ _ _ _ _ _ _ _ _ _ _ _ _ _ _ _ _ _ _ _ _ _ _ _ _ _ _ _ _ (hiq (fun c a d v w h=>by cases d <;> exact h)) ?_
      intro ut4 ut41 ut42 ut333 ut334 ut335 ut336 ut337 ut338 ut339 ut340 ut341 ut342 ut343 ut344 ut345 ut346 ut347 ut348 ut349 ut350 ut351 ut352 ut353 ut354 ut355 ut356 ut357 ut358 ut359 ut360 ut361 ut362 ut363 ut364 ut365 ut366 ut367 ut368 ut369 ut370 ut371 ut372 ut373 ut374 ut375 ut376 ut377 ut378 ut379 ut380 ut381 ut382 ut383 ut384 ut385 ut386 ut387 ut388 ut389 ut390 ut391 ut392 wx hdx
      have DX:=hiq hdx
      clear hcut hdx
      go_wp2
      go_roundg (ga-1)
      case measure=>omega
      case rel=>exact ⟨j+1,s',mt',L0',Lc',_,_,_,_,v',u',by omega,by go_num,DX.out.keep (Below.refl _ _) (fun b e => .inl (HKK'.out.2.2.2 b e)) (fun b e=>by rw [←HSK9.out.1];exact e),HY9.out.more (by omega),HSK9.out,HCN9.out,by omega,by omega,fun i hi=>by have:=HLC9.out i hi;omega⟩
    · intro ut13 ut15 ut16 ut17 ut18 ut19 ut20 ut21 ut22 ut23 ut24 ut25 ut26 ut27 ut28 ut29 ut30 ut31 ut32 ut33 ut34 ut35 ut36 ut37 ut38 ut39 ut40 ut91 ut92 ut93 ut94 ut95 ut96 ut97 ut98 ut99 ut100 ut101 ut102 ut103 ut104 ut105 ut106 ut107 ut108 ut109 ut110 ut111 ut112 ut113 ut114 ut115 ut116 ut117 ut118 ut119 ut120 ut121 ut122 ut123 ut124 ut125 ut126 ut127 ut128 ut129 ut130 ut131 ut132 ut133 ut134 ut135 ut136 ut137 ut138 ut139 ut140 ut141 ut142 ut143 ut144 ut145 ut146 ut147 ut148 ut149 ut150 ut151 ut152 ut153 ut154 ut155 ut156 ut157 ut158 ut159 ut160 ut161 ut162 ut163 ut164 ut165 ut166 ut167 ut168 ut169 ut170 ut171 ut172 ut173 ut174 ut175 ut176 ut177 ut178 ut179 ut180 ut181 ut182 ut183 ut184 ut185 ut186 ut187 ut188 ut189 ut190 ut191 ut192 ut193 ut194 ut195 ut196 ut197 ut198 ut199 ut200 ut201 ut202 ut203 ut204 ut205 ut206 ut207 ut208 ut209 ut210 ut211 ut212 ut213 ut214 ut215 ut216 ut217 ut218 ut219 ut220 ut221 ut222 ut223 ut224 ut225 ut226 ut227 ut228 ut229 ut230 ut231 ut232 ut233 ut234 ut235 ut236 ut237 ut238 ut239 ut240 ut241 ut242 ut243 ut244 ut245 ut246 ut247 ut248 ut249 ut250 ut251 ut252 ut253 ut254 ut255 ut256 ut257 ut258 ut259 ut260 ut261 ut262 ut263 ut264 ut265 ut266 ut267 ut268 ut269 ut270 ut271 ut272 ut273 ut274 ut275 ut276 ut277 ut278 ut279 ut280 ut281 ut282 ut283 ut284 ut285 ut286 ut287 ut288 ut289 ut290 ut291 ut292 ut293 ut294 ut295 ut296 ut297 ut298 ut299 ut300 ut301 ut302 ut303 ut304 ut305 ut306 ut307 ut308 ut309 ut310 ut311 ut312 ut313 ut314 ut315 ut316 ut317 ut318 ut319 ut320 ut321 ut322 ut323 ut324 ut325 ut326 ut327 ut328 ut329 ut330 ut331 ut332 wx hb
      go_ret
      exact ⟨rfl,hb⟩
  · obtain rfl:j=n3:=by omega
    clear hlt
    go_wp2
    go_ret
    exact ⟨rfl,HD.out.z.bel⟩
end Go.Proofs.YtcnkgiapidlbkaaGreatDoor
