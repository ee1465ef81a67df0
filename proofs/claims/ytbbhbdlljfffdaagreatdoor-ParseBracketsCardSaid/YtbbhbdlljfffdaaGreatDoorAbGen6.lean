import Derived.Test.YtbbhbdlljfffdaaGreatDoorAbGen4
open ByteArray renaming mk->AC
set_option linter.all false
namespace Go.Ab
noncomputable section
set_option maxHeartbeats 4000000
open Go Go.Proofs
variable[j5]
variable[k6]
def we(x2:aj):Option (bC×eR):=(BA x2).bind fun aC=>(if(decide (600<(aC.aV.length:Int)))then(some true)else((qe aC).bind fun aM=>some (decide (40<aM)))).bind fun p1=>if p1 then((nJ 10 0).bind fun bh=>some ((bC.mk []),bh))else(some (aC,(eR.mk 0 0)))
def AE(ah:Nat)(a0:ByteArray):Option (bC×eR):=(wI a0).bind fun x1=>if(!((x1.2.Code==0)&&((x1.2.aQ==0)&&true)))then(some ((bC.mk []),x1.2))else((x9 ah (aj.mk (bC.mk []) x1.1 (a0.size:Int))).bind (an.on (fun bQ dD=>(uO bQ).bind fun x3=>some ((bC.mk []),(eR.mk x3.1 x3.2))) fun x2=>if(decide (0<(x2.l.length:Int)))then((jn x2).bind fun bp=>(qw x2 bp.aQ).bind (an.on (fun dX fZ=>(uO dX).bind fun bw=>some ((bC.mk []),(eR.mk bw.1 bw.2))) fun bH=>we x2))else(we x2)))
theorem aaG{ah nn:Nat}{a0 r}(hF:AE ah a0=some r):den ax (ah+nn+9) 38 [.aI [],(U.val (.string a0)),(.fn (.func 39) [] [])]=some ((.aI [(.agg (se r.1)),(.agg (mR r.2))]),[]):=by unfold AE at hF;refine Ti Tryz.func38 Tryz.ntmps38 (by exact spine) ?_;refine aF<|aD<|ag<|ww eB<|ww eB<|nl<|ag<|pp aa<|bb hF fun x1 h1 hF=>pp (cT (RB h1))<|pp aa<|pp eV<|pp eV<|pp af<|ww cx<|nl<|sq<|ag<|rr lX<|pp eJ<|pp (JX (IK ..))<|nl<|cd hF ?_ ?_<;>intro hF;·{refine pX<|pp eJ<|rr lX<|ww cx<|ww cx<|jy<|rt<|aY<|WA<| ?_;cases hF;exact dA};·refine sk<|aN<|sk<|Wz<|pp CO<|Vw<|ag<|pp aa<|pp aa<|pp ja<|pp eJ<|ww uw<|pp af<|nl<|sq<|cp<|pp aa<|pp aa<|cv hF (fun bQ dD h3 hF=> ?_) fun x2 h2 hF=> ?_;·{refine(cy (dY (YN (ah:=ah) (nn:=nn+2) h3) (by omega)))<|cP<|cF<|bb hF fun x3 h4 hF=> ?_;refine Kj (by exact rfl) (KM h4)<| ?_;cases hF;exact dA};refine ww (bf (dY (aaE (ah:=ah) (nn:=nn+2) h2) (by omega)))<|cU<|aG 7 [] aH<|aF<|aD<|aN<|ga (r:=r) (fun(s:Unit)=>bq 55 [4,5,7] [(.c7 (se (bC.mk []))),(.c7 (mR x1.2)),(.c7 (aX x2))]) (fun _=>we x2) ?_ ?_;·{refine ag<|pp aa<|pp eK<|pp cQ<|rr dj<|pp gz<|pp jz<|nl<|cd hF ?_ ?_<;>intro hF;·{refine cp<|pp aa<|pp aa<|bb hF fun bp h8 hF=>ww (bf (j6 h8))<|pp nW<|cv hF (fun dX fZ h10 hF=> ?_) fun bH h9 hF=> ?_;·{refine(cy (wU h10))<|cP<|fM<|bb hF fun bw h11 hF=> ?_;refine Kj (by exact rfl) (KM h11)<| ?_;cases hF;exact dA};refine ww (bf (wY h9))<|cU<|aG 7 [] aH<|aF<|aD<| ?_;exact cc () hF aK};·refine sk<| ?_;exact cc () hF aK};·rintro _ hF;replace hF:we x2=some r:=hF;unfold we at hF;refine mk ?_;refine ag<|pp aa<|pp eK<|pp cQ<|bb hF fun aC h5 hF=>ww (dW (Ri h5))<|ww cx<|nl<|sq<|fF (fun(s:Bool)=>bq 55 [4,5,50] [(.c7 (se aC)),(.c7 (mR x1.2)),(B s)]) hF (fun cn hF=> ?_) (fun p1 hF=> ?_);·{refine pp cQ<|rr dj<|pp (x4 (m:=aC.aV.length))<|pp jz<|pp aa<|eM (d:=46) hF ?_ ?_<;>intro hF;·{(iterate 3 refine no fun _ _ _=> ?_);refine pp dx<| ?_;cases hF;exact ck aK};·refine yC ar lX<|bb hF fun aM h6 hF=>yC ar (cT (K2 h6))<|pt ar jz<|pp cl<| ?_;cases hF;exact ck aK};·refine mk ?_;refine cd hF ?_ ?_<;>intro hF;·{refine ag<|pp eJ<|bb hF fun bh h7 hF=>pp (eG (qa h7))<|ww cx<|ww cx<|nl<|rt<|aY<|Kk<| ?_;cases hF;exact dA};·refine sk<|aN<|ag<|rr lX<|pp eJ<|ww cx<|ww cx<|nl<|rt<|Kk<| ?_;cases hF;exact dA
def pQ(ah:Nat)(a0:ByteArray):Option (bC×eR):=(AE ah a0).bind fun x1=>some (x1.1,x1.2)
theorem HV{ah nn:Nat}{a0 r}(hF:pQ ah a0=some r):den ax (ah+nn+10) 15 [(U.val (.string a0))]=some ((.aI [(.agg (se r.1)),(.agg (mR r.2))]),[]):=by unfold pQ at hF;refine dU Tryz.func15 Tryz.ntmps15 (by exact spine) (sl:=[0]) ?_;refine ag<|ww eB<|ww eB<|nl<|ag<|pp aa<|bb hF fun x1 h1 hF=>ww (dW (dY (aaG (ah:=ah) (nn:=nn+0) h1) (by omega)))<|pp eV<|pp eV<|ww cx<|ww cx<|nl<|rt<| ?_;cases hF;exact c5
def Pq(a0:Int)(a1:Int):Option eR:=some (eR.mk a0 a1)
def uE(a0:(List ByteArray))(a1:ByteArray)(cJ:Int):Option (b8 Int (cj Unit Bool)):=if(decide (cJ<(a0.length:Int)))then((idx a0 cJ).bind fun x1=>if(x1.toList==a1.toList)then(some (.out (.ret true)))else(some (.next (bG (cJ+1)))))else(some (.out (.dz ())))
def wD(a0:(List ByteArray))(a1:ByteArray):Option Bool:=(Loop (fun(s:Int)=>uE a0 a1 s) 0).bind (cj.go (fun _=>some false) (fun r1=>some r1))
def Dc(a0:Int)(a1:Int)(a2:Int):Option Bool:=some (if(decide (a1<=a0))then(decide (a0<=a2))else false)
theorem aaO{nn:Nat}{a0 a1 a2 r}(hF:Dc a0 a1 a2=some r):den ax (nn+1) 55 [(I a0),(I a1),(I a2)]=some ((B r),[]):=by unfold Dc at hF;refine dU Tryz.func55 Tryz.ntmps55 (by exact spine) (sl:=[0,1,2]) ?_;refine ag<|pp af<|nl<|ag<|pp aa<|pp aa<|pp iu<|pp aa<|aB ar aa<|aB ar aa<|aB ar hU<|pp cw<|pp af<|nl<|rt<| ?_;cases hF;exact bZ
end
end Go.Ab
namespace Go.Ab
noncomputable section
set_option maxHeartbeats 4000000
open Go Go.Proofs
variable[j5]
variable[k6]
def lH(a0:ak):Option bu:=if((a0.Left.length:Int)==0)then(some (bu.mk 0 (AC #[]) 0 a0.End))else((idx a0.Left 0).bind fun x1=>some x1)
def pT(a0:ak):Option Bool:=some (a0.bJ.Code==0)
def er(a0:ak)(a1:ByteArray):Option Bool:=(lH a0).bind fun x1=>(pT a0).bind fun x2=>some (if(if x2 then(if(x1.Kind==4)then true else(x1.Kind==3))else false)then(x1.Text.toList==a1.toList)else false)
def Kp(y1:ak):Option ak:=some y1
def fk(a0:ak):Option ak:=(pT a0).bind fun x1=>if(if x1 then(decide (0<(a0.Left.length:Int)))else false)then((slc a0.Left (some 1) none).bind fun x2=>Kp (ak.mk a0.aV x2 a0.End a0.bJ a0.dN))else(Kp a0)
def Kq(y1:ak):Option ak:=some y1
def rQ(a0:ak)(a1:Int):Option ak:=(pT a0).bind fun x1=>if x1 then((lH a0).bind fun x2=>(Pq a1 x2.aQ).bind fun x3=>Kq (ak.mk a0.aV a0.Left a0.End x3 a0.dN))else(Kq a0)
def gZ(a0:ak)(a1:ByteArray):Option ak:=(er a0 a1).bind fun x1=>if(!x1)then((rQ a0 1).bind fun x2=>some x2)else((fk a0).bind fun x3=>some x3)
def fj(a0:ak)(a1:aA)(a2:(List Int)):Option ak:=(pT a0).bind fun x1=>if(!x1)then(some a0)else((app [] a0.aV).bind fun x2=>(app x2 ([(aA.mk a1.Kind a1.Text a1.N a1.gG a2 a1.aQ)]:List aA)).bind fun x3=>some (ak.mk x3 a0.Left a0.End a0.bJ (bG ((x3.length:Int)-1))))
def Kr(a0:Int)(a1:ByteArray):Option Bool:=if(a0==35)then((wD ([(AC #[45]),(AC #[33]),(AC #[126]),(AC #[42]),(AC #[38])]:List ByteArray) a1).bind fun x1=>some x1)else(if(a0==36)then(((wD ([(AC #[43]),(AC #[45]),(AC #[42]),(AC #[47]),(AC #[37]),(AC #[38]),(AC #[124]),(AC #[94]),(AC #[60,60]),(AC #[62,62])]:List ByteArray) a1).bind fun x2=>if x2 then(some true)else((wD ([(AC #[61,61]),(AC #[33,61]),(AC #[60]),(AC #[60,61]),(AC #[62]),(AC #[62,61])]:List ByteArray) a1).bind fun x3=>some x3)).bind fun p1=>some p1)else(if(a0==37)then(some (if(a1.toList==(AC #[38,38]).toList)then true else(a1.toList==(AC #[124,124]).toList)))else(if(a0==39)then((if(a1.toList==(AC #[61]).toList)then(some true)else(if(decide (1<(a1.size:Int)))then((dP a1 (bG ((a1.size:Int)-1))).bind fun aC=>if((aC.toNat:Int)==61)then((fG a1 none (some (bG ((a1.size:Int)-1)))).bind fun aM=>(wD ([(AC #[43]),(AC #[45]),(AC #[42]),(AC #[47]),(AC #[37]),(AC #[38]),(AC #[124]),(AC #[94]),(AC #[60,60]),(AC #[62,62])]:List ByteArray) aM).bind fun bh=>some bh)else(some false))else(some false))).bind fun p2=>some p2)else(if(a0==40)then(some (if(a1.toList==(AC #[43,43]).toList)then true else(a1.toList==(AC #[45,45]).toList)))else(some (a1.toList==(AC #[]).toList))))))
def n8(a0:Int)(a1:Int):Option (List Int):=some ([a0,a1]:List Int)
def AV(a0:ByteArray)(cJ:Int):Option (b8 Int (cj Unit Int)):=if(decide (cJ<(([([(AC #[124,124])]:List ByteArray),([(AC #[38,38])]:List ByteArray),([(AC #[124])]:List ByteArray),([(AC #[94])]:List ByteArray),([(AC #[38])]:List ByteArray),([(AC #[61,61]),(AC #[33,61])]:List ByteArray),([(AC #[60]),(AC #[60,61]),(AC #[62]),(AC #[62,61])]:List ByteArray),([(AC #[60,60]),(AC #[62,62])]:List ByteArray),([(AC #[43]),(AC #[45])]:List ByteArray),([(AC #[42]),(AC #[47]),(AC #[37])]:List ByteArray)]:List (List ByteArray)).length:Int)))then((idx ([([(AC #[124,124])]:List ByteArray),([(AC #[38,38])]:List ByteArray),([(AC #[124])]:List ByteArray),([(AC #[94])]:List ByteArray),([(AC #[38])]:List ByteArray),([(AC #[61,61]),(AC #[33,61])]:List ByteArray),([(AC #[60]),(AC #[60,61]),(AC #[62]),(AC #[62,61])]:List ByteArray),([(AC #[60,60]),(AC #[62,62])]:List ByteArray),([(AC #[43]),(AC #[45])]:List ByteArray),([(AC #[42]),(AC #[47]),(AC #[37])]:List ByteArray)]:List (List ByteArray)) cJ).bind fun x1=>(wD x1 a0).bind fun x2=>if x2 then(some (.out (.ret (bG (cJ+1)))))else(some (.next (bG (cJ+1)))))else(some (.out (.dz ())))
def GA(a0:ByteArray):Option Int:=(Loop (fun(s:Int)=>AV a0 s) 0).bind (cj.go (fun _=>some 0) (fun r1=>some r1))
def jC(a0:Int):Option (List Int):=some ([a0]:List Int)
end
end Go.Ab
