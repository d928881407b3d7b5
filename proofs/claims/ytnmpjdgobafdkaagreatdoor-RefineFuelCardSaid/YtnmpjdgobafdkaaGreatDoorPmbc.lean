/- refineFuel_proved. -/
import Derived.Test.YtnmpjdgobafdkaaGreatDoorPmbb
set_option maxRecDepth 100000
set_option maxHeartbeats 16000000
set_option linter.all false
noncomputable section
namespace Go.Proofs.YtnmpjdgobafdkaaGreatDoor
section
open Go.RowKit Go.Ev
def Jo:bo:=cB [Sx] [] 0 125 [zz 65536,eb] [] [kd 0] [⟨[zz 65536],[],[(9,[0,2])],.d (.z 2) (.i 1)⟩] 69793288194
def BK:bo:=cB [ai5] [] 0 73 [zz 65536,eb] [] [kd 0] (Xr 0 65536) 0x41000400401402
def acN:bo:=cB [sR] [] 0 130 [zz 1000000,m64] [] [kz 0,ki 1] (dK [zz 65536,eb,.i 0 3] (.t (kd 2) (ki 4))) 0x4200006513c01303af00f064c0083f00
def acO:bo:=cB [BK,avC,aco,acN] [] 0 77 [zz 65536,eb,zz 65536,eb] [] [kd 0,kd 2] (dK [zz 65536,eb,.i 0 3] (.t (kd 4) (ki 6))) 0x108000180073f5402ff0831406ff0800834c027f0830014c01051840400420c20841420c719300824a
def avW:bo:=cB [acp,acN] [] 0 255 [zz 65536,eb,zz 65536,eb] [] [kd 0,kd 2] (dK [zz 65536,eb,.i 0 3] (.t (kd 4) (ki 6))) 0x10800029810c20441530061c8
def S7:bo:=cB [] [] 0 131 [m64] [] [ki 0] (b1 (fun _ b=> .b b) [(0,.i (-2048) 8192)] [] 0) 0x18c0f4f201880f44844400401401
def ajW:bo:=cB [S7,BK] [] 0 79 [zz 65536,eb,.i (-100000) 100000] [] [kd 0,ki 2] (b1 (fun _ b=> .b b) [] [] 0) 0x4100208100128007f0300a3043400401401
def avX:bo:=cB [S7,BK] [] 0 79 [zz 65536,eb] [] [kd 0,.i (.l 8192)] [⟨[],[(0,z0)],[],.b true⟩,⟨[],[(1,.i (-8192) 65536)],[],.b true⟩,⟨[],[],[],.b false⟩] 0x4103d12110204004b001fc08c1f43844401402402
def ajX:bo:=cB [Xv,acq] [] 0 84 [zz 65536,.i (-200000) 200000] [] [kz 0,ki 1] (dK [zz 265536] (kz 2)) 0x1801f00c010800024400c2040051002
def X7:bo:=cB [ajW,sR,S7,ajX] [81,330] 8 293 [zz 65536,eb,.i 0 4096] [] [kd 0,ki 2] (dK [zz 65536,eb,.i 0 3] (.t (kd 3) (ki 5))) 0x10c00010820400530031050420a6042083003c020811054c018721303af00f02
def acP:bo:=cB [Jo,X7] [] 0 294 [zz 65536,eb,.i 0 4096] [] [kd 0,ki 2] (dK [zz 65536,eb,.i 0 3] (.t (kd 3) (ki 5))) 0x42000043043042946f004c0ebc0060801054c01c5f00
def ajY:bo:=cB [S7,(lx false),acq,ai8,sR] [81,143] 8 92 [zz 400000,.n true 400000,.i 0 4096] [] [cM 0 1,ki 2] (dK [zz 65536,eb,.i 0 3] (.t (kd 3) (ki 5))) 0x10400810418c2f00082002083103c020841474c020929303af00f02
def avY:bo:=cB [Sx,ajY,Jo] [] 0 93 [zz 400000,.n true 400000,.i 0 4096] [] [cM 0 1,ki 2] (dK [zz 65536,eb,.i 0 3] (.t (kd 3) (ki 5))) 0x1040003043042946f004c0ebc0060821054c01c5f00
def avZ:bo:=cB [avA,acK] [] 0 70 [zz 65536,eb,zz 65536,eb] [] [lF 0 1 2 3] (b1 (fun _ b=> .b b) [] [(3,[0,1]),(3,[2,3]),(1,[0,1,2,3])] 0) 0x1080001080083101001083884f00400401401401
def S8:bo:=cB [] [] 0 91 [m64] [] [ki 0] (b1 (fun _ b=> .b b) [(0,ww)] [] 0) 0x18c0f00880f60402400401401
def av1:bo:=cB [BK,ajN,avX,avV,ajV] [] 0 71 [zz 65536,eb] [] [kd 0] (b1 (fun _ b=> .b b) [] [(4,[0,1])] 0) 0x1080019012fc5017fc6000fc21000500100420400620bd4080420800430c0042400401401
def xL:bo:=cB [avZ,av1] [] 0 42 [zz 65536,eb,zz 65536,eb] [] [lF 0 1 2 3] (b1 (fun _ b=> .b b) [] [(3,[0,1]),(3,[2,3]),(1,[0,1,2,3]),(4,[0,1]),(4,[2,3])] 0) 0x1100001083081001081083400401401401
def S9:bo:=cB [xL] [] 0 94 [zz 65536,eb,zz 65536,eb,m64,m64] [] [kd 0,kd 2,ki 4,ki 5] (dK [zz 65536,eb,zz 65536,eb,.i 0 11] (.t (lF 6 7 8 9) (ki 10))) 0x6510c002fe514c00cfc414007f540001083f00540ebc03af00f06
def av2:bo:=cB [S8,ajY,avY,S9] [] 0 52 [zz 400000,.n true 400000,m64] [] [cM 0 1,ki 2] (dK [zz 65536,eb,zz 65536,eb,.i 0 11] (.t (lF 3 4 5 6) (ki 7))) 0x10400830400420c20010860c31061c521500928b30d540ebc03af00f02
def av3:bo:=cB [S8,Jo,X7,acP,S9] [239,253,240] 8 191 [zz 65536,eb,zz 65536,eb,m64] [] [lF 0 1 2 3,ki 4] (dK [zz 65536,eb,zz 65536,eb,.i 0 11] (.t (lF 5 6 7 8) (ki 9))) 0x10401020420c20400430850c40c318110610720a2c931500d38f411540ebc03af00f02
def ajZ:bo:=cB [S8,acO,X7,acP,S9] [239,253,252] 8 199 [zz 65536,eb,zz 65536,eb,zz 65536,eb,zz 65536,eb,m64] [] [lF 0 1 2 3,lF 4 5 6 7,ki 8] (dK [zz 65536,eb,zz 65536,eb,.i 0 11] (.t (lF 9 10 11 12) (ki 13))) 0x10402040400441440420c61f22ce94ff002006bf3c30892880c330d2061104535125550165d865a540ebc03af00f02
def av4:bo:=cB [Jo,ajZ] [] 0 200 [zz 65536,eb,zz 65536,eb,zz 65536,eb,zz 65536,eb,m64] [] [lF 0 1 2 3,lF 4 5 6 7,ki 8] (dK [zz 65536,eb,zz 65536,eb,.i 0 11] (.t (lF 9 10 11 12) (ki 13))) 0x108018708010524100108324728521500b30d38f
def av5:bo:=cB [S8,avW,avB,X7,acP,S9] [239,253,254] 8 201 [zz 65536,eb,zz 65536,eb,zz 65536,eb,zz 65536,eb,m64] [] [lF 0 1 2 3,lF 4 5 6 7,ki 8] (dK [zz 65536,eb,zz 65536,eb,.i 0 11] (.t (lF 9 10 11 12) (ki 13))) 0x41008101001105101001187c8b38408c3492a043c00d324fc6335fe057c00616cff0301ffe2f3ffe2f3fef179ffe16affe2f3fd5135fc61affe15bc00f0c0fef302ffe2f3ffe091fde313fc618dfe06fc00b053ffe14bfd5049fc61f4fe173c015015fe8103fcc3453b4fd00f1fe143c01331afca168fd3086fd5019fc9199fd13a4fdbf0044067f2431bf44bbbf693320fd53bdfc90d0fc60ddfee17affe16afd5015fe8053fd1497133fd148c3615bc0130bcfcb053ffe091fc5059fd40bbfd14a1f8247f249fff400dff2037bf6440976092a06fc00a054fd5015fe8036fd7616048fc25d830d85cf006004bf5d84006bfc9af0095d28153f747188fcc34818579f8628235409259a7a040420c41723d310245224a815f003431bf1835ff81af002c14fff8257f54127f18197f85bf0054057fa0137f4521443ff400eff855f004c2f3f28153f54057fa00dbf59758123f0965d14a16fc011019fc9090fd001afc503cfdc280dff707068fd148818575e8217e25408e49669c40420c61f251810259724a81af005c05ff5975410ff85af006004bf5974006bfc99f0095bf002006bf6c30c92880c424a20615c75f81e8550228e4966540ebc03af00f02
def av6:bo:=cB [acq,ai8] [] 0 257 [zz 65536,eb,.z true false true 65536,eb,ww] [] [kd 0,kd 2,ki 4] (dK [zz 300000] (kz 5)) 0x19c10e61448c6f000800060811c24402301820021c2040211009
def av7:bo:=cB [avJ,S8,av6,Jo,Sx,ai7,sR,S9] [] 0 202 [zz 65536,eb,zz 65536,eb,zz 65536,eb,zz 65536,eb,m64] [] [lF 0 1 2 3,lF 4 5 6 7,ki 8] (dK [zz 65536,eb,zz 65536,eb,.i 0 11] (.t (lF 9 10 11 12) (ki 13))) 0x440041461c1048909f002a73ff142001140c7f0011422c1140c7f305080045041fcb045041fcf08538a811f002130bf64923fc9263ff888fff888fff8393ff9233fb88cfff888fff888fff8dabf886cbfb127bf3b6494ffe22bffe22bffe0e4ffe48cfd9074ffe109fe206bfe811ffce20e83ff8dabf14053f601a3f396358fd03614bc020241fd0b88cfff888fff888fff8393f946bff41324efd0c48c3ff888fff888ff42508dfd04c27ff4251affd05027bf1052020c20c50940c41480445421532a05fc00811afd9074ffe0e4fe206bfe80fafd32046bff8393f14053f6010ff4d60d2fd636163c01c071fd6941a3f59307afd6941a3f59002afc50820c61c814250318720111a08564a81cf00200cbf14053f6008bf654026fc215b36177c008011fdb40027fc0808629e08635e1877e08a38645409669e8a56001fc428037f041209001fca540ebc03af00f02
def X8:bo:=cB [] [] 0 241 [m64] [] [ki 0] (b1 (fun _ b=> .b b) [(0,ww)] [] 0) 0x18c0f00880f60402400401401
def aj0:bo:=cB [Xu,ats,ai1,ai2] [] 0 331 [zz 65536,eb,ww] [] [kd 0,ki 2] [⟨[.n false 200000],[],[],.t (kn 3) (.b true)⟩,⟨[.n false 200000],[],[],.t (kn 3) (.b false)⟩] 0x68f040a60438c4f00080e40101045b87440191046c04082e40141046b88083e4016e2510074411d1047
def av8:bo:=cB [X8,BK,aj0,(lx false),sR,qs,Lx] [] 0 295 [zz 65536,eb,m64] [] [kd 0,ki 2,.b true] (dK [zz 65536,eb,.i 0 4] (.t (kd 3) (ki 5))) 0x104008204004604ffc89c003f0c20010810c3c020841054c01872001421831010c5c020841874c020929303af00f02
def av9:bo:=cB [X8,BK,aj0,(lx false),sR] [] 0 295 [zz 65536,eb,m64] [] [kd 0,ki 2,.b false] (dK [zz 65536,eb,.i 0 4] (.t (kd 3) (ki 5))) 0x1040082040046043fc884003f0c200108e000fc10c3c020841054c018721303af00f02
def awa:bo:=cB [av9] [] 0 242 [zz 65536,eb,m64] [] [kd 0,ki 2] (dK [zz 65536,eb,.i 0 4] (.t (kd 3) (ki 5))) 0x10c0001093003105
def awb:bo:=cB [av8] [] 0 243 [zz 65536,eb,m64] [] [kd 0,ki 2] (dK [zz 65536,eb,.i 0 4] (.t (kd 3) (ki 5))) 0x10c0001093003105
def aj1:bo:=cB [xL] [] 0 244 [zz 65536,eb,zz 65536,eb,m64,m64] [] [kd 0,kd 2,ki 4,ki 5] (dK [zz 65536,eb,zz 65536,eb,.i 0 11] (.t (lF 6 7 8 9) (ki 10))) 0x6510c002fe514c00cfc414007f540001083f00540ebc03af00f06
def awc:bo:=cB [X8,BK,awa,awb,aj1] [] 0 192 [zz 65536,eb,zz 65536,eb,m64] [] [lF 0 1 2 3,ki 4] (dK [zz 65536,eb,zz 65536,eb,.i 0 11] (.t (lF 5 6 7 8) (ki 9))) 0x10401020420c9005fc8081f800bf081001240cff299000fc30800440c308310610518824729500b30d38f540ebc03af00f02
end
end Go.Proofs.YtnmpjdgobafdkaaGreatDoor
