/- A part of the proof of TopWrong. -/
import Derived.Test.YtdgneofhcenhfaaGreatDoorProg
import Derived.WalkSpells
import Derived.WalkLawsBesides
import Derived.Deep.RegionHeld3
import Derived.Deep.DrawnRows
import Derived.Lib.Hide
import Derived.BigQuiet
import Derived.StillTailTactics
import Derived.Handy
import Derived.Laws.CopyOwn
import Derived.Lib.ValidLaws
import Derived.Lib.IndexAny
import Derived.Lib.SlTrimSet
import Derived.Deep.LoopGhost
import Derived.DeepKeys5
import Derived.Lay
import Derived.WalkKit
set_option maxHeartbeats 16000000
set_option maxRecDepth 100000
set_option linter.all false
open Array renaming getElem?_eq_none->ll
open Bool renaming eq_iff_iff->xI,true_and->tB
open ByteArray renaming mk->D
open Decidable renaming not_not->JB
open Go renaming Addr->ay,Calls->ν,Ending->aI,TypeId->aQ,Value->ε,World->Z,bodyPost_ret->Ω,maxLen->Χ,results->ag
open Go.Act renaming put->oV
open Go.Addr renaming add->jm,mk->U
open Go.AllReadyH renaming cons->JC,nil->JD
open Go.BinOp renaming and->qm
open Go.Builtin renaming clear_->JE
open Go.Calls renaming quiet_of->JF
open Go.Ending renaming returned->ξ
open Go.Instr renaming lookup->cw
open Go.IntKind renaming bits->Ek,i64->E,signed->Em,u32->Λ
open Go.IntWalk renaming i64_in->vi
open Go.Lib renaming hid->K
open Go.Maps renaming size->xL
open Go.Obj renaming cells->ζ
open Go.Program renaming keyLits->JM
open Go.Proofs.Tryz renaming func214->Ap,func216->Aq,func356->Ar,func357->xN,ntmps214->As,ntmps216->Au,ntmps356->Av,ntmps357->xP,prog->δ,results356->EC,results357->Ax
open Go.RowKit renaming Below->bH,Hid->η
open Go.RowKit.Below renaming alloc->EG,heap_alloc->JW,heap_setCell->JX,refl->iz
open Go.Utf8 renaming decode->km
open Go.Value renaming bool->ι,cells->vl,formed->JZ,int->I,map->ω,pointer->π,slice->V,string->H,tuple->σ
open Go.WideElems renaming rg->J0
open Go.World renaming setCell->eH
open Int renaming tmod_eq_emod_of_nonneg->EI
open List renaming cons_ne_nil->J2,getElem?_take->kD,mem_append->dO,mem_cons->dD,mem_map->eO,mem_of_mem_take->vx,setIfInBounds_toArray->oW,set_cons_succ->oX,set_cons_zero->oY,take_of_length_le->mo
open Nat renaming le_refl->Ο,le_trans->aJ,lt_of_lt_of_le->dQ,lt_or_ge->fU,zero_le->ai
open Option renaming none->A,some->N
open Option.some renaming inj->cr
open Go Go.RowKit Go.Lib Go.Proofs.Tryz
namespace Go.Proofs.YtdgneofhcenhfaaGreatDoor
attribute [local go_sem ↓] Go.wp_at_zero Go.wp_at_succ
theorem zJ{c:Program}{d:FuncId}{args:Array ε}{w:Z}{a:Nat}{v:ε}(e:ν c d args (w.drewN a) λb w'=>b=ξ v/\w.drewN a=w'):ν c d args (w.drewN a) λb i=>b=ξ v/\∃h,i=w.drewN h:=
 e.mono λ_ _ ⟨f,g⟩=>⟨f,a,g.symm⟩
abbrev Bs:=Nat->Prop
def γ:Bs:=λ_=>False
theorem gz_{d:Type _}:(∀(b:List d) (c:Nat),b.toArray[c]? =b[c]?)/\(∀(a:d) (b:List d),(a::b)[0]? =N a)/\∀(a:d) (b:List d) (c:Nat),(a::b)[c+1]? =b[c]? :=⟨λ_ _=>List.getElem?_toArray ..,λ_ _=>rfl,λ_ _ _=>rfl⟩
abbrev BA:=ByteArray
theorem WB{c:Prop}{f:Decidable c}(d:¬c){e:Sort _}{a b:e}:(if c then a else b)=b:=if_neg d
theorem ahM{c:Prop}{f:Decidable c}(d:c){e:Sort _}{a b:e}:(if c then a else b)=a:=if_pos d
theorem ahO{c:Type _}[BEq c][LawfulBEq c]{a b:c}(d:a≠b):(a==b)=false:=beq_eq_false_iff_ne.2 d
theorem ahN{a b:Prop}(c:a)(d:¬a):b:=absurd c d
theorem jg{a:Option Func}{b:String->Func}{d:String->Prop}(e:d ((a.map (·.name)).getD "")/\a=N (b ((a.map (·.name)).getD ""))):∃c,d c/\a=N (b c):=⟨_,e⟩
theorem Η{c:Nat->Prop}:∀a,γ a->c a:=λ_ b=>b.elim
def θ(w:Z)(g:Nat)(t:aQ)(cs:Array ε):Prop:=w.heap[g]? =N (ζ cs t (0,0))
section
variable {w w':Z} {g:Nat} {t:aQ} {cs:Array ε}
theorem θ.lt(a:θ w g t cs):g<w.heap.size:=by
 obtain hlt|hge:=fU g w.heap.size
 .exact hlt
 unfold θ at a;rw[ll hge] at a;cases a
theorem θ.cell(b:θ w g t cs)(a:Nat):w.cell? (U g a A)=cs[a]? :=cell_of_row w g a cs t (0,0) b
theorem θ.frozen(a:θ w g t cs)(b:Nat):w.frozen? (U g b A)=false:=by unfold θ at a;simp[World.frozen?,a]
theorem θ.new(w:Z)(t:aQ)(cs:Array ε):θ (w.alloc (ζ cs t)) w.heap.size t cs:=heap_alloc_new w _
theorem θ.dA(w:Z)(a:Obj)(t:aQ)(cs:Array ε):θ ((w.alloc a).alloc (ζ cs t)) (w.heap.size+1) t cs:=by have:=θ.new (w.alloc a) t cs;simpa using this
theorem θ.alloc(a:θ w g t cs)(b:Obj):θ (w.alloc b) g t cs:=(JW w b g a.lt).trans a
theorem θ.χ(a:θ w g t cs)(i:Nat)(u:ε):θ (w.setCell (U g i A) u) g t (cs.setIfInBounds i u):=by unfold θ at a⊢;simp[eH,Array.getElem?_modify,a]
theorem θ.far(b:θ w g t cs){p:ay}(c:g≠p.block)(a:ε):θ (w.setCell p a) g t cs:=(JX w p a g c).trans b
theorem θ.drew(a:θ w g t cs):θ w.drew g t cs:=a
theorem θ.drewN(a:θ w g t cs)(b:Nat):θ (w.drewN b) g t cs:=by unfold θ at a⊢;exact a
end
theorem θ.to{w:Z}{g:Nat}{t:aQ}{cs cs':Array ε}(b:θ w g t cs)(a:cs=cs'):θ w g t cs':=a▸b
structure Y (w w':Z) (F:Bs):Prop where
 os:w'.os=w.os
 tape:w'.tape=w.tape
 output:w'.output=w.output
 size:w.heap.size<=w'.heap.size
 block:∀k,k<w.heap.size->¬F k->w'.heap[k]? =w.heap[k]?
section
variable {a b c w w':Z} {F G:Bs} {g:Nat}
theorem Y.refl(w:Z)(F:Bs):Y w w F:=⟨rfl,rfl,rfl,Ο _,λ_ _ _=>rfl⟩
theorem Y.trans(e:Y a b F)(f:Y b c G)(i:∀d,G d->F d\/a.heap.size<=d):Y a c F:=
 ⟨f.os.trans e.os,f.tape.trans e.tape,f.output.trans e.output,aJ e.size f.size,λd h g=>(f.block d (dQ h e.size) (λj=>by
  obtain h1|h1:=i d j
  .exact g h1
  .omega)).trans (e.block d h g)⟩
theorem Y.mono(d:Y a b F)(e:∀c,F c->G c\/a.heap.size<=c):Y a b G:=
 ⟨d.os,d.tape,d.output,d.size,λc h g=>d.block c h (λf=>by
  obtain h1|h1:=e c f
  .exact g h1
  .omega)⟩
theorem Y.jy{c:Option Nat}(a:w.grownBy w' c)(hF:∀b,c=N b->F b):Y w w' F:=
 ⟨a.os,a.tape,a.output,a.size,λb f e=>a.block b f (λd=>e (hF b d.symm))⟩
theorem Y.of_below(a:bH w.heap.size w w')(F:Bs):Y w w' F:=⟨a.os,a.tape,a.output,a.size,λc b _=>a.block c b⟩
theorem Y.below(a:Y w w' γ):bH w.heap.size w w':=⟨a.os,a.tape,a.output,a.size,λc b=>a.block c b id⟩
theorem Y.grown(a:Y w w' γ):w.grownBy w' A:=⟨a.os,a.tape,a.output,a.size,λc b _=>a.block c b id⟩
theorem Y.any(a:Y w w' γ):Y w w' F:=a.mono Η
theorem Y.alloc(c:Y a b F)(d:Obj):Y a (b.alloc d) F:=c.trans (Y.jy (F:=γ) (World.grownBy_alloc b d A) (λ_ c=>by cases c)) Η
theorem Y.drew(c:Y a b F):Y a b.drew F:=⟨c.os,c.tape,c.output,c.size,c.block⟩
theorem Y.drewN(c:Y a b F)(d:Nat):Y a (b.drewN d) F:=⟨c.os,c.tape,c.output,c.size,c.block⟩
theorem Y.χ(c:Y a b F){p:ay}(g:F p.block\/a.heap.size<=p.block)(u:ε):Y a (b.setCell p u) F:=
 ⟨c.os,c.tape,c.output,by simpa[eH] using c.size,λe f d=>(JX b p u e (by
  rintro rfl;obtain h1|h1:=g
  .exact d h1
  .omega)).trans (c.block e f d)⟩
theorem Y.blk(b:Y w w' F){t:aQ}{cs:Array ε}(a:θ w g t cs)(c:¬F g):θ w' g t cs:=(b.block g a.lt c).trans a
theorem Y.row{a:Nat}(d:Y w w' F){c:Obj}(b:w.heap[a]? =N c)(e:¬F a):w'.heap[a]? =N c:=by
 refine(d.block a ?_ e).trans b;obtain hlt|hge:=fU a w.heap.size
 .exact hlt
 rw[ll hge] at b;cases b
end
structure Ψ (w w':Z) (F F':Bs):Prop where
 keeps:Y w w' F
 fresh:∀k,F' k->F k\/w.heap.size<=k
section
variable {a b c w w':Z} {F G H0:Bs}
theorem Ψ.refl(w:Z)(F:Bs):Ψ w w F F:=⟨Y.refl w F,λ_ a=> .inl a⟩
theorem Ψ.trans(d:Ψ a b F G)(e:Ψ b c G H0):Ψ a c F H0:=
 ⟨d.keeps.trans e.keeps d.fresh,λf g=>by
  obtain h1|h1:=e.fresh f g
  .exact d.fresh f h1
  .exact .inr (aJ d.keeps.size h1)⟩
theorem Ψ.bu(a:Y w w' γ)(F:Bs):Ψ w w' F F:=⟨a.any,λ_ a=> .inl a⟩
theorem Ψ.χ(c:Ψ a b F G){p:ay}(d:G p.block)(u:ε):Ψ a (b.setCell p u) F G:=⟨c.keeps.χ (c.fresh _ d) u,c.fresh⟩
theorem Ψ.yV(d:Ψ b c F G)(h:b.os=a.os)(i:b.tape=a.tape)(j:b.output=a.output)(e:b.heap=a.heap):Ψ a c F G:=
 ⟨⟨d.keeps.os.trans h,d.keeps.tape.trans i,d.keeps.output.trans j,e▸d.keeps.size,λg f k=>(d.keeps.block g (e▸f) k).trans (by rw[e])⟩,λg f=>by rw[<-e];exact d.fresh g f⟩
theorem Ψ.drew(c:Ψ a b F G):Ψ a b.drew F G:=⟨c.keeps.drew,c.fresh⟩
theorem Ψ.drewN(c:Ψ a b F G)(d:Nat):Ψ a (b.drewN d) F G:=⟨c.keeps.drewN d,c.fresh⟩
theorem Ψ.still(d:Ψ a b F G)(e:Y b c γ):Ψ a c F G:=d.trans (Ψ.bu e G)
end
structure ju (P:Z->Bs->Prop):Prop where
 lt:∀ {w F},P w F->∀k,F k->k<w.heap.size
 stay:∀ {w w' F},P w F->(∀k,F k->w'.heap[k]? =w.heap[k]?)->P w' F
theorem ju.keeps{b:Z->Bs->Prop}(d:ju b){w w':Z}{F G:Bs}(c:b w F)(g:Y w w' G)(f:∀a,F a->¬G a):b w' F:=
 d.stay c λa e=>g.block a (d.lt c a e) (f a e)
theorem ju.drewN{a:Z->Bs->Prop}(c:ju a){w:Z}{F:Bs}(b:a w F)(d:Nat):a (w.drewN d) F:=c.stay b λ_ _=>rfl
theorem ju.drew{a:Z->Bs->Prop}(c:ju a){w:Z}{F:Bs}(b:a w F):a w.drew F:=c.stay b λ_ _=>rfl
section
variable {L:Type}
def of(c:Nat->Option L)(b:L):Bs:=λa=>c a=N b
open Classical in
noncomputable def fH(c:Nat->Option L)(b:L)(d:Bs):Nat->Option L:=λa=>if d a then N b else if c a=N b then A else c a
theorem abN(d:Nat->Option L)(b:L)(a:Bs):of (fH d b a) b=a:=by
 funext k;unfold of fH;by_cases c:a k
 .simp[c]
 by_cases e:d k=N b<;>simp[c,e]
def Bc(w:Z)(c:Nat->Option L):Prop:=∀a b,c a=N b->a<w.heap.size
theorem abM{w w':Z}{a:Nat->Option L}{e c:L}{f:Bs}(j:Bc w a)(g:Ψ w w' (of a e) f)(i:c≠e):of (fH a e f) c=of a c:=by
 funext k;unfold of fH;by_cases d:f k
 .simp only[d,if_true];obtain h1|h1:=g.fresh k d
  .unfold of at h1;rw[h1]
  have:a k≠N c:=λb=>by have:=j k c b;omega
  simp[this];exact λb=>i b.symm
 by_cases h:a k=N e
 .simp[d,h];exact λb=>i b.symm
 simp[d,h]
theorem aaE{w w':Z}{d:Nat->Option L}{e:L}{c:Bs}(i:Bc w d)(g:Ψ w w' (of d e) c)(hF:∀a,c a->a<w'.heap.size):Bc w' (fH d e c):=by
 intro a j b;unfold fH at b;by_cases f:c a
 .exact hF a f
 simp only[f,if_false] at b;by_cases h:d a=N e
 .simp[h] at b
 simp only[h,if_false] at b;exact dQ (i a j b) g.keeps.size
end
def most:Nat:=65536
def gM(v:ε):Prop:=∃a:BA,v=H a/\a.size<=most
def jw(d:Z)(c:Nat)(v:ε)(b:Nat):Prop:=∃a:List ε,a.length=b/\d.ownsRow c 9 1 v b a/\∀e∈a,gM e
variable{w n:Z}{x:ε}{y k d M:Nat}{m C:Int}{j:Bs}{a:List ε}{f:Bool}{p:BA}{q:Array ε}{u:aQ}
theorem aD{F:Bs}(c:w.ownsRow y u k x d a)(f:Y w n F)(e:∀b,x.ownBlock=N b->¬F b):n.ownsRow y u k x d a:=by
 refine⟨c.1,?_⟩;obtain hn|⟨b,cap,cur,e1,hbg,hgg,rest⟩:=c.2
 .exact .inl hn
 exact .inr ⟨b,cap,cur,e1,hbg,f.row hgg (e b (by rw[e1];rfl)),rest⟩
theorem jw.keeps{w b:Z}{F:Bs}(c:jw w y x k)(h:Y w b F)(g:∀a,x.ownBlock=N a->¬F a):jw b y x k:=by obtain⟨i,d,e,f⟩:=c;exact⟨i,d,aD e h g,f⟩
theorem jw.nil(c:Z)(a:Nat):jw c a (V A 0 0) 0:=⟨[],rfl,World.ownsRow_nil _ _ _ _,λ_ b=>by cases b⟩
structure lW (w:Z) (g:Nat) (cnt:Nat) (F:Bs):Prop where
 ex:∃(pb first:Nat) (cs:Array ε),θ w g 422 #[V (N (U pb 0 A)) 12 12,I E first,I E cnt]/\θ w pb 9 cs/\cs.size=12/\(∀v∈cs.toList,gM v)/\first<12/\g≠pb/\∀k,F k↔(k=g\/k=pb)
 cnt:cnt<=12
theorem QH(c:∀v∈q.toList,gM v){i:Nat}(d:i<q.size):∃a:BA,q[i]? =N (H a)/\a.size<=most:=by obtain⟨a,b,e⟩:=c q[i] (by simp);exact⟨a,by rw[Array.getElem?_eq_getElem d,b],e⟩
theorem QI(a:∀v∈q.toList,gM v)(c:Nat)(b:p.size<=most):∀v∈(q.setIfInBounds c (H p)).toList,gM v:=by
 intro v hv;simp only[Array.toList_setIfInBounds] at hv;obtain h1|h1:=List.mem_or_eq_of_mem_set hv
 .exact a v h1
 exact⟨p,h1,b⟩
theorem qg(cnt b:Nat):ju λm f=>lW m b cnt f where
 lt h k hk:=by
  obtain⟨a,first,e,c,d,_,_,_,_,hF⟩:=h.ex;obtain rfl|rfl:=(hF k).1 hk
  .exact c.lt
  .exact d.lt
 stay h he:=by obtain⟨a,first,e,c,d,g,i,j,l,hF⟩:=h.ex;exact⟨⟨a,first,e,(he b ((hF b).2 (.inl rfl))).trans c,(he a ((hF a).2 (.inr rfl))).trans d,g,i,j,l,hF⟩,h.cnt⟩
theorem PV(b:θ w y 422 #[V (N (U k 0 A)) 12 12,I E d,I E M])(n:d<12)(a:Nat)(o:a<=12):ν δ 374 #[π (N (U y 0 A)),I E a] w λf h=>f=ξ (π (N ⟨k,(d+a)%12,A⟩))/\∃g,h=w.drewN g:=by
 have c:=b.cell 0;have e:=b.cell 1;simp at c e;have i:IntKind.i64.wrap ((d:Int)+a)=d+a:=vi _ (by omega)
 have j:((d:Int)+a).tmod 12=((d+a)%12:Nat):=by rw[EI (by omega)];omega
 have l:((d+a)%12:Nat)<12:=Nat.mod_lt _ (by omega);have m:(0:Int)<=((d+a)%12:Nat):=by omega
 go_enter func374,ntmps374;go_wp2;go_quiet (fail)
 go_wp2;all_goals(go_ret;exact⟨by simp_all,_,rfl⟩)
theorem Iz(c:lW w y k j):ν δ 373 #[π (N (U y 0 A))] w λb e=>b=ξ (I E k)/\w=e:=by obtain⟨g,first,f,d,_⟩:=c.ex;have a:=d.cell 2;simp at a;go_enter func373,ntmps373;go_wp2;all_goals(go_ret;exact⟨rfl,rfl⟩)
theorem acG(e:lW w y 12 j)(g:BA):ν δ 403 #[π (N (U y 0 A)),H g] w λd h=>d=ξ (ι false)/\∃f,h=w.drewN f:=by
 obtain⟨k,first,i,a,_⟩:=e.ex;have b:=a.cell 0;have c:=a.cell 2;simp at b c;go_enter func403,ntmps403;go_wp2;go_quiet (fail)
 go_wp2;all_goals(go_ret;exact⟨rfl,_,rfl⟩)
theorem acI(p:lW w y k j)(B:k<12)(f:BA)(r:f.size<=most):ν δ 403 #[π (N (U y 0 A)),H f] w λb i=>b=ξ (ι true)/\lW i y (k+1) j/\Ψ w i j j:=by
 obtain⟨e,first,t,a,d,q,g,h,c,hF⟩:=p.ex;have l:=a.cell 0;have m:=a.cell 2;simp at l m;have u:((k:Int)==12)=false:=ahO (by omega);go_enter func403,ntmps403;go_wp2;go_quiet (fail)
 go_wp2_with fail;refine(PV (a.drewN _) h k (by omega)).mono ?_;rintro b J ⟨rfl,F,rfl⟩;have C:(first+k)%12<12:=Nat.mod_lt _ (by omega);obtain⟨G,o,_⟩:=QH g (i:=(first+k)%12) (by omega);have n:=d.cell ((first+k)%12);rw[o] at n;have z:=d.frozen ((first+k)%12);have x:=a.frozen 2;have s:((w.setCell ⟨e,(first+k)%12,A⟩ (H f)).cell? (U y 2 A))=N (I E k):=by rw[(a.far (p:=(U e _ A)) c _).cell];rfl
 go_wp2;all_goals go_ret
 all_goals
  refine⟨rfl,⟨⟨e,first,_,(((a.drewN _).far c _).χ 2 _).to (by simp),((d.drewN _).χ _ _).far (λb=>c b.symm) _,by simpa using q,QI g _ r,h,c,hF⟩,by omega⟩,?_⟩;exact(((Ψ.refl w j).drewN _).χ ((hF _).2 (.inr rfl)) _).χ ((hF _).2 (.inl rfl)) _
def Je:Array ε:=#[H (D #[]),H (D #[]),H (D #[]),H (D #[]),H (D #[]),H (D #[]),H (D #[]),H (D #[]),H (D #[]),H (D #[]),H (D #[]),H (D #[])]
theorem adf(a:Z):ν δ 362 #[I E 12] a λf e=>∃d c,f=ξ (π (N (U d 0 A)))/\lW e d 0 c/\Ψ a e γ c:=by
 have h:∀a:Z,(Instr.makeSlice 26 (I E 12) (I E 12)).run δ a= .ok (V (N (U a.heap.size 0 A)) 12 12) (a.alloc (ζ Je 9)):=λ_=>by kernel_rfl
 go_enter func362,ntmps362;go_wp2;all_goals go_ret
 all_goals
  refine⟨a.heap.size+1,λb=>b=a.heap.size+1\/b=a.heap.size,rfl,⟨⟨a.heap.size,0,Je,θ.dA _ _ _ _,(θ.new a _ _).alloc _,rfl,λv hv=>⟨⟨#[]⟩,?_,by decide⟩,by omega,by omega,λb=>Iff.rfl⟩,by omega⟩,⟨(Y.refl a γ).alloc _ |>.alloc _,λb g=> .inr (by omega)⟩⟩;simp[Je] at hv;exact hv
def Um(c:Z)(b:Nat)(a:Bs):Prop:=∃cnt,lW c b cnt a
def Fp(f:Z)(e:Nat)(a:Bs)(d:aI)(b:Z):Prop:=(∃c,d=ξ (ι c))/\Um b e a/\Ψ f b a a
theorem XD(b:lW w y k j)(a:Int)(g:(k:Int)<a):ν δ 343 #[π (N (U y 0 A)),I E a] w (Fp w y j):=by
 obtain⟨h,first,e,d,_⟩:=b.ex;have c:=d.cell 2;simp at c;have f:¬a<0:=by omega
 go_enter func343,ntmps343;go_wp2;all_goals(go_ret;exact⟨⟨_,rfl⟩,⟨k,b⟩,Ψ.refl w j⟩)
theorem XE(q:lW w y k j)(a:Nat)(M:a<=k):ν δ 343 #[π (N (U y 0 A)),I E a] w (Fp w y j):=by
 obtain⟨n,first,d,b,e,g,f,B,l,hF⟩:=q.ex;have H:=q.cnt;have h:=b.cell 2;simp at h;have o:¬(a:Int)<0:=by omega
 have p:¬(k:Int)<a:=by omega
 go_enter func343,ntmps343;go_wp2;clear h o p;have G0:=Ψ.refl w j;go_loopw [5,21] (λ_ m wr=>∃(c:Nat) (d:Array ε),c<=a/\m=I E c/\θ wr y 422 #[V (N (U n 0 A)) 12 12,I E first,I E k]/\θ wr n 9 d/\d.size=12/\(∀v∈d.toList,gM v)/\Ψ w wr j j) (λ_ m _=>a-(intOf m).toNat)
 case atStart=>exact⟨0,d,ai _,rfl,b,e,g,f,G0⟩
 clear b e g f G0;obtain⟨c,d,K,rfl,b,e,g,f,G0⟩:=hrel;by_cases L:c<a
 .go_wp2_with fail;refine(PV b B c (by omega)).mono ?_;rintro i Q ⟨rfl,O,rfl⟩;have J:(first+c)%12<12:=Nat.mod_lt _ (by omega);obtain⟨P,u,_⟩:=QH f (i:=(first+c)%12) (by omega);have t:=e.cell ((first+c)%12);rw[u] at t;have G:=e.frozen ((first+c)%12);go_wp2;go_roundw
  case rel=>exact⟨c+1,_,by omega,by go_num,(b.drewN _).far l _,(e.drewN _).χ _ _,by simpa using g,QI f _ (by decide),(G0.drewN _).χ ((hF _).2 (.inr rfl)) _⟩
  case measure=>simp[intOf];omega
 have r:=b.cell 0;have s:=b.cell 1;have h:=b.cell 2;simp at r s h;have C:=b.frozen 1;have F:=b.frozen 2;have o:IntKind.i64.wrap ((first:Int)+a)=first+a:=vi _ (by omega)
 have p:((first:Int)+a).tmod 12=((first+a)%12:Nat):=by rw[EI (by omega)];omega
 go_wp2;go_region
 go_wp2;all_goals go_ret
 all_goals
  refine⟨⟨_,rfl⟩,⟨k-a,⟨n,(first+a)%12,d,((b.χ 1 _).χ 2 _).drew.to ?_,((e.far (p:=(U y 1 A)) (λi=>l i.symm) _).far (p:=(U y 2 A)) (λi=>l i.symm) _).drew,g,f,Nat.mod_lt _ (by omega),l,hF⟩,by omega⟩,((G0.χ ((hF _).2 (.inl rfl)) _).χ ((hF _).2 (.inl rfl)) _).drew⟩;have x:((first:Int)+a)%12=((first+a)%12:Nat):=by omega
  have z:(k:Int)-a=(k-a:Nat):=by omega
  rw[x,z];simp
theorem zV:prog.underlying 26=N (.slice 9):=by kernel_rfl
theorem lj:prog.underlying 9=N .string:=by kernel_rfl
theorem zU:(prog.info? 9).map (λa=>(a.zero,a.size,a.bytes))=N (N (H (D #[])),1,16):=by kernel_rfl
theorem agw:(prog.info? 9).map (·.size)=N 1:=by kernel_rfl
theorem Oa:gM (H (D #[])):=⟨_,rfl,by decide⟩
theorem aaU(c:Nat):∀v∈(madeCells (vl (H (D #[]))) (c*1)).toList,gM v:=by
 intro v hv;simp only[madeCells,vl,Array.toList_map,eO] at hv;obtain⟨a,_,b⟩:=hv;rw[<-b];simp
 first
  |exact Oa
  |(have:a%1=0:=Nat.mod_one a;simp[this];exact Oa)
theorem GC{w w0:Z}{B g off dLen dCap sLen sCap:Nat}{ad:ay}(b a:List ε)(d:w.heap[g]? =N (ζ b.toArray u (0,0)))(k:a.length=Nat.min sLen dLen)(l:∀e v,a[e]? =N v->w.cell? (ad.add e)=N v)(j:off+a.length<=b.length)(f:∀v∈a,v.oneCell'=true)(i:bH B w0 w)(h:B<=g):∃c,(Builtin.copy_ #[26,26] 3 #[V (N (U g off A)) dLen dCap,V (N ad) sLen sCap]).run δ w= .ok (I E a.length) c/\c.heap[g]? =N (ζ (splice b off a).toArray u (0,0))/\bH B w0 c:=by refine⟨_,run_copy_row (P:=δ) w 26 26 3 9 g off dLen dCap ad sLen sCap b.toArray u a zV agw d k l (by simpa using j) f,?_,below_setRow i h _⟩;simpa[splice] using setRow_heap w g _ _ u _ d
theorem DC(c:∀v∈a,gM v):∀v∈a,v.oneCell'=true:=λv hv=>by obtain⟨d,b,_⟩:=c v hv;rw[b];rfl
theorem I7{c:List ε}(b:∀v∈a,gM v)(d:∀v∈c,gM v)(e:Nat):∀v∈splice a e c,gM v:=by
 intro v hv;unfold splice at hv;obtain h|h:=dO.1 hv
 .exact b v (vx h)
 obtain h|h:=dO.1 h
 .exact d v h
 exact b v (List.mem_of_mem_drop h)
def yq(c:Z)(d:aI)(b:Z):Prop:=∃v a,d=ξ v/\jw b c.heap.size v a/\a<=12/\Y c b γ
theorem adb(a:lW w y 0 j):ν δ 344 #[π (N (U y 0 A))] w (yq w):=by go_enter func344,ntmps344;go_wp2_with fail;refine(Iz a).mono ?_;rintro b c ⟨rfl,rfl⟩;go_wp2;all_goals(go_ret;exact⟨_,0,rfl,jw.nil _ _,by omega,Y.refl _ _⟩)
theorem ade(l:lW w y k j)(aO:0<k):ν δ 344 #[π (N (U y 0 A))] w (yq w):=by
 obtain⟨e,first,d,C,F,aL,G,aM,aN,hF⟩:=l.ex;have ax:=l.cnt;obtain⟨aF,al,am,an,ao⟩:=info_parts zU;have e0:((k:Int)==0)=false:=ahO (by omega);go_enter func344,ntmps344;go_wp2_with fail;refine(Iz l).mono ?_;rintro u q ⟨rfl,rfl⟩;clear l;go_wp2_with (refine wpList_make_full _ rfl (.tmp 10) (.tmp 10) 26 rfl w.heap.size 9 aF (H (D #[])) 1 zV al am an E E k k k rfl rfl rfl rfl ?_ ?_ (Ο _) ?_)
 .rw[ao];omega
 .unfold Χ;omega
 intro q ag af;have L:Y w q γ:=Y.jy af (λ_ l=>by cases l);have aj:=L.blk C id;have aG:=L.blk F id;have aC:=C.lt;have aQ:=F.lt;have aR:=af.size;obtain⟨aD,_⟩|⟨aK,aJ,n,az,aw,I,aI,P,Q,R⟩:=ag.2
 .cases aD
 injection az with p aA aB;injection p with p;injection p with p;subst p aB;have aE:∀v∈n.toList,gM v:=by rw[mo (by simp;omega)] at R;rw[R];have:=aaU k;rw[Nat.mul_one] at this;exact this
 have ae:n.toList.length=k:=by simp;omega
 rw[show n=n.toList.toArray by simp] at I;generalize n.toList=s at*;clear aA aw aI P Q R ag al am an ao e0;have aq:=K I;have T:=K ae;clear I ae;have t:=aj.cell 0;have X:=aj.cell 1;simp at t X
 have ah:∀a v,(d.toList.drop first)[a]? =N v->q.cell? ((⟨e,first,A⟩:ay).add a)=N v:=by
  intro a v c;have u:((⟨e,first,A⟩:ay).add a)=⟨e,first+a,A⟩:=by unfold jm;by_cases B:a=0<;>simp[B]
  rw[u,aG.cell];simpa using c
 have HS:=K ah;clear ah;have aa:IntKind.i64.wrap ((first:Int)+k)=first+k:=vi _ (by omega)
 have ac:¬12=first:=by omega
 obtain⟨b,ab,m1,m2,m3⟩:∃b:Nat,(if(12:Int)<first+k then(12:Int) else first+k)=b/\first<=b/\b<=12/\b<=first+k:=by refine⟨min (first+k) 12,?_,by omega,by omega,by omega⟩;split<;>omega
 have ar:(b:Int)<=12:=by omega
 have f:=K (show((d.toList.drop first).take (b-first)).length=Nat.min (b-first) k/\(∀v∈(d.toList.drop first).take (b-first),gM v)/\(0+((d.toList.drop first).take (b-first)).length<=s.length)/\∀a v,((d.toList.drop first).take (b-first))[a]? =N v->q.cell? ((⟨e,first,A⟩:ay).add a)=N v from by
  have M:=T.out;have au:((d.toList.drop first).take (b-first)).length=b-first:=by simp;omega
  refine⟨by rw[au];exact(Nat.min_eq_left (by omega)).symm,λv hv=>G v (List.mem_of_mem_drop (vx hv)),by omega,λa v c=>HS.out a v ?_⟩;rw[kD] at c;split at c
  .exact c
  cases c)
 generalize(d.toList.drop first).take (b-first)=xs at f;obtain⟨S,P,r,x⟩:=GC (w:=q.drew) (w0:=w) (B:=w.heap.size) (dLen:=k) (dCap:=k) (sCap:=12-first) s xs (by exact aq.out) f.out.1 (by exact f.out.2.2.2) (off:=0) f.out.2.2.1 (DC f.out.2.1) L.below.drew (Ο _);have aH:=(Y.of_below x γ).blk C id;go_wp2_with fail;go_region
 clear P t X aa ab ac ar;have ad:=I7 aE f.out.2.1 0;have ai:=length_splice s 0 xs f.out.2.2.1;generalize splice s 0 xs=W at*;have aP:xs.length<=k:=by rw[f.out.1];exact Nat.min_le_right _ _
 have M:=T.out;have t:=aH.cell 0;simp at t
 have O:∀ak a v,(d.toList.take ak)[a]? =N v->S.drew.cell? ((⟨e,0,A⟩:ay).add a)=N v:=by
  intro ak a v c;have u:((⟨e,0,A⟩:ay).add a)=⟨e,a,A⟩:=by unfold jm;by_cases B:a=0<;>simp[B]
  rw[u,((Y.of_below x γ).blk F id).drew.cell];rw[kD] at c;split at c
  .simpa using c
  cases c
 have i:∀g:Z,bH w.heap.size w g->(∃h:List ε,g.heap[w.heap.size]? =N (ζ h.toArray 9 (0,0))/\h.length=k/\∀v∈h,gM v)->yq w (ξ (V (N (U w.heap.size 0 A)) k k)) g:=by rintro g o ⟨h,av,z,t3⟩;exact⟨_,k,rfl,⟨h,z,⟨by simpa using z,.inr ⟨_,k,h.toArray,rfl,Ο _,av,Ο _,by unfold Χ;omega,by simpa using z,mo (by simpa using Nat.le_of_eq z)⟩⟩,t3⟩,ax,Y.of_below o _⟩
 by_cases J:xs.length=k
 .obtain⟨g,Q,m,o⟩:=GC (w:=S.drew) (w0:=w) (B:=w.heap.size) (g:=w.heap.size) (off:=0) (dLen:=0) (dCap:=0) (sLen:=12) (sCap:=12) (ad:=(U e 0 A)) W [] (by exact r) (by simp) (λa v c=>by simp at c) (by simp) (λv hv=>by cases hv) x.drew (Ο _);have i:=K (i g o ⟨_,m,by rw[length_splice _ _ _ (by simp)];omega,I7 ad (λv hv=>by cases hv) 0⟩);rw[J];clear r m O ai M J;go_wp2_with fail;go_region
  go_wp2;all_goals(go_ret;exact i.out)
 have aC:xs.length<k:=by omega
 have ap:(d.toList.take (k-xs.length)).length=k-xs.length:=by simp;omega
 obtain⟨g,Q,m,o⟩:=GC (w:=S.drew) (w0:=w) (B:=w.heap.size) (g:=w.heap.size) (off:=xs.length) (dLen:=k-xs.length) (dCap:=k-xs.length) (sLen:=12) (sCap:=12) (ad:=(U e 0 A)) W (d.toList.take (k-xs.length)) (by exact r) (by rw[ap];exact(Nat.min_eq_right (by omega)).symm) (O _) (by omega) (DC λv hv=>G v (vx hv)) x.drew (Ο _);have i:=K (i g o ⟨_,m,by rw[length_splice _ _ _ (by omega)];omega,I7 ad (λv hv=>G v (vx hv)) _⟩);have aa:¬k=xs.length:=by omega
 have ab:¬xs.length=k:=by omega
 have ac:(xs.length:Int)<=k:=by omega
 clear r m O ai M J ap;go_wp2_with fail;go_region
 go_wp2;all_goals(go_ret;exact i.out)
theorem jT{a:IntKind}(b:m=C):ξ (I a m)=ξ (I a C):=by rw[b]
theorem lc{a:Bool}(b:f=a):ξ (ι f)=ξ (ι a):=by rw[b]
def eB(a:Int):Prop:=0<=a/\a<4294967296
theorem Ls(a b:Int)(c:Z):ν δ 243 #[I Λ a,I E b] c λd e=>d=ξ (I Λ ((a+b)%4294967296))/\c=e:=by go_enter func243,ntmps243;go_wp2;all_goals(go_ret;exact⟨jT (by omega),rfl⟩)
theorem Gj(a b:Int)(c:Z):ν δ 342 #[I Λ a,I Λ b] c λd e=>d=ξ (I Λ ((b-a)%4294967296))/\c=e:=by go_enter func342,ntmps342;go_wp2;all_goals(go_ret;exact⟨jT (by omega),rfl⟩)
def Jv(c a b:Int):Bool:=decide ((c-a)%4294967296<=(b-a)%4294967296)
theorem RO(d a b:Int)(e:Z):ν δ 340 #[I Λ d,I Λ a,I Λ b] e λc f=>c=ξ (ι (Jv d a b))/\e=f:=by unfold Jv;go_enter func340,ntmps340;go_wp2_with fail;refine(Gj a d _).mono ?_;rintro c g ⟨rfl,rfl⟩;go_wp2_with fail;refine(Gj a b _).mono ?_;rintro c g ⟨rfl,rfl⟩;go_wp2;all_goals(go_ret;exact⟨rfl,rfl⟩)
structure mx (w:Z) (g:Nat) (F:Bs):Prop where
 ex:∃(rg cnt:Nat) (Fr:Bs) (c m:Int),θ w g 311 #[π (N (U rg 0 A)),I Λ c,I Λ m]/\lW w rg cnt Fr/\¬Fr g/\eB c/\eB m/\∀k,F k↔(k=g\/Fr k)
theorem sK(d:Nat):ju λo k=>mx o d k where
 lt h b a:=by
  obtain⟨c,cnt,g,i,j,e,f,_,_,_,hF⟩:=h.ex;obtain rfl|a:=(hF b).1 a
  .exact e.lt
  .exact(qg cnt c).lt f b a
 stay h he:=by obtain⟨c,cnt,g,i,j,e,f,l,m,n,hF⟩:=h.ex;exact⟨c,cnt,g,i,j,(he d ((hF d).2 (.inl rfl))).trans e,(qg cnt c).stay f λb a=>he b ((hF b).2 (.inr a)),l,m,n,hF⟩
def Kv(f:Z)(e:Nat)(a:Bs)(c:ε->Prop)(d:aI)(b:Z):Prop:=(∃v,d=ξ v/\c v)/\mx b e a/\Ψ f b a a
def Bb(v:ε):Prop:=∃a,v=I Λ a/\eB a
def Ba(b:List Int)(v:ε):Prop:=∃a,v=I E a/\a∈b
theorem I5{F:Bs}(b:Ψ w n j j)(d:∀a,j a->F a):Ψ w n F F:=⟨b.keeps.mono λa c=> .inl (d a c),λ_ b=> .inl b⟩
theorem aaH(l:Z):ν δ 316 #[I E 12,I Λ 0] l λi m=>∃j g,i=ξ (π (N (U j 0 A)))/\mx m j g/\Ψ l m γ g:=by
 go_enter func316,ntmps316;go_wp2_with fail;refine(adf _).mono ?_;rintro i f ⟨e,h,rfl,k,c⟩;go_wp2;all_goals go_ret
 all_goals
  have n:=(qg 0 e).lt k;refine⟨f.heap.size,λa=>a=f.heap.size\/h a,rfl,⟨e,0,h,0,0,θ.new _ _ _,(qg 0 e).keeps k ((Y.refl f γ).alloc _) (λ_ _ b=>b),λb=>by have:=n _ b;omega,⟨by omega,by omega⟩,⟨by omega,by omega⟩,λa=>Iff.rfl⟩,⟨c.keeps.alloc _,λa d=> ?_⟩⟩;obtain rfl|d:=d
  .exact .inr c.keeps.size
  .exact c.fresh a d
theorem adk(d:mx w y j)(a:BA)(p:a.size<=most):ν δ 389 #[π (N (U y 0 A)),H a] w (Kv w y j (Ba [0,13])):=by
 obtain⟨x,cnt,g,h,s,e,b,f,l,m,hF⟩:=d.ex;have i:=e.cell 0;simp at i;by_cases n:cnt<12
 .go_enter func389,ntmps389;go_wp2_with fail;refine(acI b n a p).mono ?_;rintro k z ⟨rfl,u,c⟩;have r:=c.keeps.blk e f;go_wp2;all_goals(go_ret;exact⟨⟨_,rfl,0,rfl,by simp⟩,⟨x,_,g,h,s,r,u,f,l,m,hF⟩,I5 c λq o=>(hF q).2 (.inr o)⟩)
 obtain rfl:cnt=12:=by have:=b.cnt;omega
 go_enter func389,ntmps389;go_wp2_with fail;refine(acG b a).mono ?_;rintro k z ⟨rfl,t,rfl⟩;go_wp2;all_goals(go_ret;exact⟨⟨_,rfl,13,rfl,by simp⟩,(sK y).stay d λ_ _=>rfl,(Ψ.refl w j).drewN t⟩)
theorem aeu(i:mx w y j)(d:Int)(q:0<=d):ν δ 170 #[π (N (U y 0 A)),I E d] w (Kv w y j Bb):=by
 obtain⟨e,cnt,f,g,n,a,k,c,l,p,hF⟩:=i.ex;have h:=a.cell 2;simp at h;have o:=a.frozen 2;go_enter func170,ntmps170;go_wp2_with fail
 all_goals
  refine(Ls n _ _).mono ?_;rintro b r ⟨rfl,rfl⟩;go_wp2
  all_goals
   go_ret;exact⟨⟨_,rfl,_,rfl,⟨by omega,by omega⟩⟩,⟨e,cnt,f,g,_,(a.χ 2 _).to (by simp;rfl),(qg cnt e).keeps k ((Y.refl w (·=y)).χ (.inl rfl) _) (λs m b=>c (b▸m)),c,l,⟨by omega,by omega⟩,hF⟩,(Ψ.refl w j).χ ((hF _).2 (.inl rfl)) _⟩
theorem Qg(a:θ w y 311 #[π (N (U k 0 A)),I Λ m,I Λ C])(f:lW w k d j):ν δ 341 #[π (N (U y 0 A))] w λe h=>e=ξ (I Λ ((m+d)%4294967296))/\∃g,h=w.drewN g:=by
 have b:=a.cell 0;have c:=a.cell 1;simp at b c;go_enter func341,ntmps341;go_wp2;go_quiet (first|(go_at_call 373;exact zJ (Iz ((qg d k).drewN f _)))|(go_at_call 243;exact zJ (Ls _ _ _)))
 go_wp2;all_goals(go_ret;exact⟨rfl,_,rfl⟩)
theorem XF(c:lW w y k j)(b:Int)(e:0<=b):ν δ 343 #[π (N (U y 0 A)),I E b] w (Fp w y j):=by
 obtain⟨a,rfl⟩:∃a:Nat,b=a:=⟨b.toNat,by omega⟩;by_cases d:a<=k
 .exact XE c a d
 exact XD c a (by omega)
def Tb(g:Z)(e:Nat)(a:Bs)(d:aI)(c:Z):Prop:=(∃f b,d=ξ (σ #[I E f,I E b])/\b∈[(0:Int),10])/\mx c e a/\Ψ g c a a
theorem Ml(q:mx w y j)(b:Int)(L:eB b):ν δ 288 #[π (N (U y 0 A)),I Λ b] w (Tb w y j):=by
 obtain⟨e,cnt,n,c,O,d,i,k,T,F,hF⟩:=q.ex;have z:=d.cell 1;simp at z;have o:eB ((b-c)%4294967296):=⟨by omega,by omega⟩;generalize l:(b-c)%4294967296=a;rw[l] at o;have g:=λt=>K (Gj c b t);rw[l] at g;clear l;have H:∀f,n f->j f:=λf G=>(hF f).2 (.inr G);cases J:Jv b c ((c+cnt)%4294967296) with
 |false=>
  go_enter func288,ntmps288;go_wp2;go_quiet (first|(go_at_call 341;exact JF (Qg (d.drewN _) ((qg cnt e).drewN i _)))|(go_at_call 340;exact zJ (RO _ _ _ _)))
  go_wp2;all_goals exact Ω (v:=σ #[I E 0,I E 10]) (by simp[ag,results288,go_sem]) rfl ⟨⟨_,_,rfl,by simp⟩,(sK y).stay q λ_ _=>rfl,(Ψ.refl w j).drewN _⟩
 |true=>
  go_enter func288,ntmps288;go_wp2;go_quiet (first|(go_at_call 341;exact JF (Qg (d.drewN _) ((qg cnt e).drewN i _)))|(go_at_call 340;exact zJ (RO _ _ _ _)))
  go_wp2_with fail;refine(g _).out.mono ?_;rintro h s ⟨rfl,rfl⟩;clear g J;obtain⟨u,Q⟩:=o;have x:=d.cell 0;simp at x;have R:wrap64 a=a:=IntWalk.wrap64_in _ ⟨by omega,by omega⟩;go_wp2_with fail;refine(XF ((qg cnt e).drewN i _) a u).mono ?_;rintro h s ⟨⟨P,rfl⟩,⟨B,r⟩,p⟩;have m:=p.keeps.blk (d.drewN _) k;have S:=m.frozen 1;have C:=m.cell 1;simp at C;have V:=r.cnt;go_wp2;all_goals exact Ω (v:=σ #[I E a,I E 0]) (by simp[ag,results288,go_sem]) rfl ⟨⟨_,_,rfl,by simp⟩,⟨e,_,n,b,O,(m.χ 1 _).to (by simp),(qg B e).keeps r ((Y.refl s (·=y)).χ (.inl rfl) _) (λW M h=>k (h▸M)),k,L,F,hF⟩,((I5 (F:=j) p H).χ ((hF _).2 (.inl rfl)) _).yV rfl rfl rfl rfl⟩
theorem aaO(i:mx w y j):ν δ 289 #[π (N (U y 0 A))] w (yq w):=by
 obtain⟨n,cnt,o,p,E,k,c,u,x,z,hF⟩:=i.ex;have h:=k.cell 0;simp at h
 have a:ν δ 344 #[π (N (U n 0 A))] w (yq w):=by
  by_cases l:cnt=0
  .subst l;exact adb c
  exact ade c (by omega)
 have a:=K a;go_enter func289,ntmps289;go_wp2_with fail;refine a.out.mono ?_;rintro s I ⟨v,d,rfl,t1,t2,t3⟩;obtain⟨g,e,b,f⟩:=t1;obtain⟨rfl,J⟩|⟨t,q,r,rfl,B,C,F,G,H,m⟩:=b.2
 .go_wp2;all_goals(go_ret;exact⟨_,d,rfl,⟨g,e,b,f⟩,t2,t3⟩)
 clear m;go_wp2;all_goals(go_ret;exact⟨_,d,rfl,⟨g,e,b,f⟩,t2,t3⟩)
def Sj(e:Z)(g:Nat)(a:Bs)(f:aI)(b:Z):Prop:=(∃v d c,f=ξ (σ #[v,I E c])/\jw b e.heap.size v d/\d<=12/\c∈[(0:Int),10])/\mx b g a/\Ψ e b a a
theorem UQ(c:mx w y j)(f:Int)(s:eB f):ν δ 236 #[π (N (U y 0 A)),I Λ f] w (Sj w y j):=by
 go_enter func236,ntmps236;go_wp2_with fail;refine(Ml c f s).mono ?_;rintro q J ⟨⟨C,B,rfl,m⟩,d,b⟩;simp only[dD,List.not_mem_nil,or_false] at m;obtain rfl|rfl:=m
 .go_wp2_with fail;refine(aaO d).mono ?_;rintro q u ⟨v,e,rfl,t1,t2,t3⟩;have k:=b.still t3;have n:=(sK y).keeps d t3 (λ_ _ c=>c);have z:=b.keeps.size;obtain⟨g,o,a,p⟩:=t1
  have a:u.ownsRow w.heap.size 9 1 v e g:=by
   refine⟨a.1,?_⟩;obtain hn|⟨l,h,i,e1,r,rest⟩:=a.2
   .exact .inl hn
   exact .inr ⟨l,h,i,e1,by omega,rest⟩
  obtain⟨rfl,K⟩|⟨l,h,i,rfl,r,x,F,G,H,t⟩:=a.2
  .go_wp2;all_goals exact Ω (v:=σ #[_,I E 0]) (by simp[ag,results236,go_sem]) rfl ⟨⟨_,e,_,rfl,⟨g,o,a,p⟩,t2,by simp⟩,n,k⟩
  clear t;go_wp2;all_goals exact Ω (v:=σ #[_,I E 0]) (by simp[ag,results236,go_sem]) rfl ⟨⟨_,e,_,rfl,⟨g,o,a,p⟩,t2,by simp⟩,n,k⟩
 go_wp2;all_goals exact Ω (v:=σ #[V A 0 0,I E 10]) (by simp[ag,results236,go_sem]) rfl ⟨⟨_,0,_,rfl,jw.nil _ _,by omega,by simp⟩,d,b⟩
abbrev Bt:=List UInt8
def wN(a:Nat):Bool:=a==9||a==10||a==13||(!(a==65534)&& !(a==65535)&&decide (32<=a))
def oM(b:ByteArray):Nat->Nat->Bool
 |0,_=>true
 |c+1,a=>if a<b.size then wN (km b a).1&&oM b c (a+(km b a).2) else true
def uV(a:ByteArray):Bool:=validD a.data.toList&&oM a a.size 0
def gD(a:ByteArray):Int:=if uV a then 0 else 2
def nM(a:UInt8):Bool:=decide (97<=a)&&decide (a<=122)
def oH(a:UInt8):Bool:=(decide (48<=a)&&decide (a<=57))||a==45||a==58
def sM:Bool->Bt->Bool
 |_,[]=>true
 |b,a::c=>(nM a||(!b&&oH a))&&sM false c
def iH(a:Bt):Bool:=sM true a&& !a.isEmpty&&decide (a.length<=16)
def oF(a:Bt):Option Bt:=
 if a=[97,109,112] then N [38] else if a=[108,116] then N [60] else if a=[103,116] then N [62] else if a=[113,117,111,116] then N [34] else if a=[97,112,111,115] then N [39] else A
def nS:Nat->Bt->Bt->Option Bt
 |0,_,_=>A
 |c+1,b,a=>
  if(cut a [38]).2.2 then
   match oF (cut (cut a [38]).2.1 [59]).1 with
   |some d=>if(cut (cut a [38]).2.1 [59]).2.2 then nS c (b++(cut a [38]).1++d) (cut (cut a [38]).2.1 [59]).2.1 else A
   |none=>A
  else N (b++(cut a [38]).1)
def C':Option Bt->Bt×Int
 |some a=>(a,0)
 |none=>([],3)
def gG(a:Bt):Bt×Int:=
 if uV ⟨a.toArray⟩ then(if contains a [60] then([],3) else C' (nS (a.length+1) [] a)) else([],2)
def de:Bt:=[32,9,10,13]
structure aG where
 Θ:Int
 name:Bt
 Γ:List (Bt×Bt)
 Β:Bt
def ii(a:Bt):List aG×Int:=if a=[] then([],0) else if(gG a).2=0 then([⟨3,[],[],(gG a).1⟩],0) else([],(gG a).2)
def kP(a:Bt):List aG×Int:=if iH (trimRightS a de) then([⟨2,trimRightS a de,[],[]⟩],0) else([],3)
def iL:Bt->Bt×Bt×Bool
 |[]=>([],[],false)
 |a::b=>if a=34\/a=39 then(if(cut b [a]).2.2 then((gG (cut b [a]).1).1,(cut b [a]).2.1,decide ((gG (cut b [a]).1).2=0)) else([],[],false)) else([],[],false)
def iT(a:Bt):(Bt×Bt)×Bt×Bool:=
 if(cut a [61]).2.2&&iH (cut a [61]).1 then(((cut a [61]).1,(iL (cut a [61]).2.1).1),(iL (cut a [61]).2.1).2.1,(iL (cut a [61]).2.1).2.2) else(([],[]),[],false)
def lZ:Nat->List (Bt×Bt)->Bt->Option (List (Bt×Bt)×Bool)
 |0,_,_=>A
 |d+1,b,a=>
  if trimLeftS a de=[] then N (b,false) else if trimLeftS a de=[47] then N (b,true) else
  if(trimLeftS a de).length=a.length\/(iT (trimLeftS a de)).2.2=false\/(b.any λc=>c.1==(iT (trimLeftS a de)).1.1)=true\/b.length=6 then A
  else lZ d (b++[(iT (trimLeftS a de)).1]) (iT (trimLeftS a de)).2.1
def pF(nm:Bt):Option (List (Bt×Bt)×Bool)->List aG×Int
 |some (a,false)=>([⟨1,nm,a,[]⟩],0)
 |some (a,true)=>([⟨1,nm,a,[]⟩,⟨2,nm,[],[]⟩],0)
 |none=>([],3)
def iU(a:Bt):List aG×Int:=
 if iH (a.take (indexAny (a++[32]) (de++[47])).toNat) then
  pF (a.take (indexAny (a++[32]) (de++[47])).toNat) (lZ (a.length+1) [] (a.drop (indexAny (a++[32]) (de++[47])).toNat))
 else([],3)
def fA(a:Bt):List aG×Int:=
 if uV ⟨a.toArray⟩ then(match a with|47::b=>kP b|_=>iU a) else([],2)
structure Rd where
 held:Bt
 within:Bool
 err:Int
def cY(a:Rd)(b:UInt8):Rd×List aG:=
 if b=60/\a.within=true then({a with err:=3},[])
 else if b=60 then(⟨[],true,(ii a.held).2⟩,(ii a.held).1)
 else if b=62/\a.within=true then(⟨[],false,(fA a.held).2⟩,(fA a.held).1)
 else if a.held.length=512 then({a with err:=4},[])
 else({a with held:=a.held++[b],err:=0},[])
def iX:Rd->List aG->Bt->Rd×List aG
 |a,b,[]=>(a,b)
 |a,b,c::d=>if a.err=0 then iX (cY a c).1 (b++(cY a c).2) d else(a,b)
def cP(b:Rd)(a:Bt):Rd×List aG:=iX b [] a
def cQ:Rd:=⟨[],false,0⟩
theorem Ph(a:Nat)(m:Z):ν δ 216 #[I .i32 a] m λc n=>c=ξ (ι (wN a))/\m=n:=by
 have b:∀i:Nat,a≠i->((a:Int)==(i:Int))=false:=λi q=>ahO (by omega);by_cases d:a=9
 .subst d;go_enter Aq,Au;go_wp2;all_goals(go_ret;exact⟨rfl,rfl⟩)
 by_cases e:a=10
 .subst e;go_enter Aq,Au;go_wp2;all_goals(go_ret;exact⟨rfl,rfl⟩)
 by_cases f:a=13
 .subst f;go_enter Aq,Au;go_wp2;all_goals(go_ret;exact⟨rfl,rfl⟩)
 have j:((a:Int)==9)=false:=b 9 d;have k:((a:Int)==10)=false:=b 10 e;have l:((a:Int)==13)=false:=b 13 f;by_cases g:a=65534
 .subst g;clear b j k l;go_enter Aq,Au;go_wp2;all_goals(go_ret;exact⟨lc (by decide),rfl⟩)
 by_cases h:a=65535
 .subst h;clear b j k l;go_enter Aq,Au;go_wp2;all_goals(go_ret;exact⟨lc (by decide),rfl⟩)
 have o:((a:Int)==65534)=false:=b 65534 g;have p:((a:Int)==65535)=false:=b 65535 h;have c:wN a=decide ((32:Int)<=a):=by unfold wN;rw[ahO d,ahO e,ahO f,ahO g,ahO h];rw[xI];simp;omega
 rw[c];clear b c d e f g h;go_enter Aq,Au;go_wp2;all_goals(go_ret;exact⟨lc (by first|rfl|simp[*]),rfl⟩)
theorem nQ{l:Bt}(a:p.data.toList=l):p=(D l.toArray):=by subst a;simp
def Ld(d:Z)(a:Option Bt)(b:aI)(c:Z):Prop:=b=ξ (σ #[H ⟨(a.getD []).toArray⟩,ι a.isSome])/\d=c
theorem abe(a:BA)(h:Z):ν δ 214 #[H a] h (Ld h (oF a.data.toList)):=by
 by_cases b:a.data.toList=[97,109,112]
 .obtain rfl:=nQ b;clear b;go_enter Ap,As;go_wp2;all_goals(go_ret2;exact⟨rfl,rfl⟩)
 by_cases c:a.data.toList=[108,116]
 .obtain rfl:=nQ c;clear b c;go_enter Ap,As;go_wp2;all_goals(go_ret2;exact⟨rfl,rfl⟩)
 by_cases d:a.data.toList=[103,116]
 .obtain rfl:=nQ d;clear b c d;go_enter Ap,As;go_wp2;all_goals(go_ret2;exact⟨rfl,rfl⟩)
 by_cases e:a.data.toList=[113,117,111,116]
 .obtain rfl:=nQ e;clear b c d e;go_enter Ap,As;go_wp2;all_goals(go_ret2;exact⟨rfl,rfl⟩)
 by_cases f:a.data.toList=[97,112,111,115]
 .obtain rfl:=nQ f;clear b c d e f;go_enter Ap,As;go_wp2;all_goals(go_ret2;exact⟨rfl,rfl⟩)
 have g:oF a.data.toList=A:=by simp[oF,b,c,d,e,f]
 rw[g];clear g;rw[<-Lib.toList_data] at b c d e f;have i:(a.toList==[97,109,112])=false:=ahO b;have j:(a.toList==[108,116])=false:=ahO c;have k:(a.toList==[103,116])=false:=ahO d;have l:(a.toList==[113,117,111,116])=false:=ahO e;have m:(a.toList==[97,112,111,115])=false:=ahO f;go_enter Ap,As;go_wp2;all_goals(go_ret2;exact⟨rfl,rfl⟩)
theorem aaA(a:UInt8):nM a=(decide ((97:Int)<=(a.toNat:Int))&&decide ((a.toNat:Int)<=122)):=by unfold nM;rw[xI];simp[UInt8.le_iff_toNat_le];omega
theorem aa4(f:Bt):∀(a:Nat) (d:Bool) (b:UInt8),f[a]? =N b->(nM b||(!(d&&a==0)&&oH b))=false->sM d f=false:=by
 induction f with
 |nil=>intro a d b c;simp at c
 |cons j f i=>
  intro a d b c e;cases a with
  |zero=>simp at c;subst c;simp only[sM];simp at e⊢;simp[e];intro g h;exact ahN (e.2 g) (by simp[h])
  |succ a=>simp only[sM];rw[i a false b (by simpa using c) (by simpa using e)];simp
theorem aa3(d:Bt):∀(b:Bool),(∀(c:Nat) (a:UInt8),d[c]? =N a->(nM a||(!(b&&c==0)&&oH a))=true)->sM b d=true:=by
 induction d with
 |nil=>intro b e;rfl
 |cons f d h=>intro b e;simp only[sM,Bool.and_eq_true];refine⟨by simpa using e 0 f rfl,h false λc a g=>by simpa using e (c+1) a (by simpa using g)⟩
inductive El where
 |mk (name:Bt) (Γ:List (Bt×Bt)) (Β:Bt) (Ξ:List El)
def El.name:El->Bt| .mk a _ _ _=>a
def El.Γ:El->List (Bt×Bt)| .mk _ a _ _=>a
def El.Β:El->Bt| .mk _ _ a _=>a
def El.Ξ:El->List El| .mk _ _ _ a=>a
structure Bd where
 aV:List El
 count:Nat
 ae:Bool
inductive Ev where
 |head (name:Bt) (Γ:List (Bt×Bt))
 |item (e:El)
 |ak
def jL(a:Bd):Nat:=(if a.aV.length=1 then 0 else a.count)+1
def gj(a:Bd)(b:aG):Int:=
 if a.ae=true\/b.Θ<1\/3<b.Θ\/(a.aV=[]/\b.Θ≠1) then 3 else if 1<a.aV.length/\64<jL a then 4 else 0
def vM(b:Bd)(a:aG):Int ⊕(Bd×Option Ev):=
 if 4<b.aV.length then .inl 5 else
 match b.aV with
 |[]=> .inr (⟨[.mk a.name a.Γ [] []],b.count,false⟩,N (.head a.name a.Γ))
 |c::d=>if d≠[]/\c.Ξ.length=16 then .inl 4 else .inr (⟨.mk a.name a.Γ [] []::c::d,b.count,false⟩,A)
def yP(a:Bd)(h:aG):Int ⊕(Bd×Option Ev):=
 match a.aV with
 |[]=> .inl 3
 |b::c=>
  if b.name≠h.name then .inl 3 else
  match c with
  |[]=> .inr (⟨[],a.count,true⟩,N .ak)
  |[d]=> .inr (⟨[d],a.count,false⟩,N (.item b))
  | .mk g e i f::d::c=> .inr (⟨.mk g e i (f++[b])::d::c,a.count,false⟩,A)
def sV(a:Bd)(b:aG):Int ⊕(Bd×Option Ev):=
 match a.aV with
 | .mk e c h d::g::f=> .inr (⟨.mk e c (h++b.Β) d::g::f,a.count,false⟩,A)
 |_=>if trimS b.Β de=[] then .inr (⟨a.aV,a.count,false⟩,A) else .inl 3
def wQ(b:Bd)(a:aG):Int ⊕(Bd×Option Ev):=if a.Θ=1 then vM b a else if a.Θ=2 then yP b a else sV b a
def fR(a:Bd)(b:aG):Int ⊕(Bd×Option Ev):=if gj a b≠0 then .inl (gj a b) else wQ ⟨a.aV,jL a,a.ae⟩ b
def Vz:Bd:=⟨[],0,false⟩
structure oe (b:Bd):Prop where
 bP:b.count<=100
 deep:b.aV.length<=5
 first:b.aV=[]->b.ae=false->b.count=0
 Β:∀e∈b.aV.dropLast,e.Β.length<=b.count*1000000
theorem abR:oe Vz:=⟨by decide,by decide,λ_ _=>rfl,nofun⟩
theorem abS{f:List El}{i:aG}{p:Bd}{t:Option Ev}(d:y<=100)(u:f.length<=5)(e:∀g∈f.dropLast,g.Β.length+1000000<=y*1000000)(w:i.Β.length<=1000000)(q:f=[]->i.Θ=1)(a:wQ ⟨f,y,false⟩ i= .inr (p,t)):oe p:=by
 unfold wQ at a;by_cases j:i.Θ=1
 .rw[if_pos j] at a;unfold vM at a;simp only at a;split at a
  .cases a
  match f,a with
  |[],a=>
   cases a
   exact⟨d,by simp,λc=>by simp at c,nofun⟩
  |g::n,a=>
   simp only at a;split at a
   .cases a
   cases a
   refine⟨d,by simp at*;omega,λc=>by simp at c,λh b=> ?_⟩;simp only[List.dropLast_cons_of_ne_nil (J2 g n)] at b;obtain rfl|b:=dD.1 b
   .simp[El.Β]
   have:=e h b;simp only;omega
 rw[if_neg j] at a;by_cases r:i.Θ=2
 .rw[if_pos r] at a;unfold yP at a;simp only at a;match f,a with
  |[],a=>exact absurd (q rfl) j
  |[g],a=>
   simp only at a;split at a
   .cases a
   cases a
   exact⟨d,by simp,(λ_ c=>by cases c),nofun⟩
  |[g,s],a=>
   simp only at a;split at a
   .cases a
   cases a
   exact⟨d,by simp,(λc=>by cases c),nofun⟩
  |g:: .mk m k o l::s::n,a=>
   simp only at a;split at a
   .cases a
   cases a
   refine⟨d,by simp at*;omega,(λc=>by cases c),λh b=> ?_⟩;simp only[List.dropLast_cons_of_ne_nil (J2 _ _)] at b e;obtain rfl|b:=dD.1 b
   .have:=e (.mk m k o l) (by simp);simp only[El.Β] at this⊢;omega
   have:=e h (by simp[b]);simp only;omega
 rw[if_neg r] at a;match f,a with
 |[],a=>exact absurd (q rfl) j
 |[⟨_,_,_,_⟩],a=>
  simp only[sV] at a;split at a
  .cases a
   exact⟨d,u,(λc=>by cases c),nofun⟩
  cases a
 | .mk m k o l::s::n,a=>
  simp only[sV] at a;cases a
  refine⟨d,by simp at*;omega,(λc=>by cases c),λh b=> ?_⟩;simp only[List.dropLast_cons_of_ne_nil (J2 _ _)] at b e;obtain rfl|b:=dD.1 b
  .have:=e (.mk m k o l) (by simp);simp only[El.Β,List.length_append] at this⊢;omega
  have:=e h (by simp[b]);simp only;omega
theorem se{b:Bd}{c:aG}(a:gj b c=0):b.ae=false/\1<=c.Θ/\c.Θ<=3/\(b.aV=[]->c.Θ=1)/\(1<b.aV.length->jL b<=64):=by
 unfold gj at a;split at a
 .cases a
 rename_i d;split at a
 .cases a
 rename_i e;simp only[not_or,not_and,JB,Bool.not_eq_true] at d e;obtain⟨f,b,h,g⟩:=d;exact⟨f,by omega,by omega,g,λa=>by have:=e a;omega⟩
theorem Mo{a:Bd}{t:aG}(e:oe a)(g:gj a t=0):jL a<=64:=by
 obtain⟨c,_,_,_,d⟩:=se g;by_cases f:1<a.aV.length
 .exact d f
 unfold jL;by_cases b:a.aV.length=1
 .rw[if_pos b];omega
 rw[if_neg b,e.first (List.length_eq_zero_iff.1 (by omega)) c];omega
theorem aew{b g:Bd}{f:aG}{k:Option Ev}(d:oe b)(m:f.Β.length<=1000000)(a:fR b f= .inr (g,k)):oe g:=by
 unfold fR at a;split at a
 .cases a
 rename_i c;have c:gj b f=0:=JB.1 c;have n:=Mo d c;obtain⟨i,_,_,j,h⟩:=se c;rw[i] at a;refine abS (by omega) d.deep (λh e=> ?_) m j a;have:=d.Β h e;unfold jL;rw[if_neg]
 .omega
 intro l;match hb:b.aV,l with
 |[o],_=>rw[hb] at e;simp at e
theorem az(d:Y w n j)(a:w.cell? (U y k A)=N x)(b:¬j y):n.cell? (U y k A)=N x:=by have c:=World.block_lt_of_cell? w _ a;rw[<-a];unfold World.cell?;rw[d.block _ c b]
theorem uP(d:Y w n γ)(c:w.heap.size<=y)(a:Nat)(b:ε):Y w (n.setCell (U y a A) b) γ:=d.χ (p:=(U y a A)) (.inr c) b
section
open Go.Maps
structure lU (κ:Type) where
 t:aQ
 val:κ->ε
 lit:κ->Lit
 ok:κ->Prop
variable {κ:Type}
structure lU.Good (K0:lU κ):Prop where
 keyed:Keyed δ K0.t
 key:∀ {x},K0.ok x->keyOf δ K0.t (K0.val x)=N (K0.lit x)
 inj:∀x y,K0.val x=K0.val y->x=y
 Dz:∀ {v l},keyOf δ K0.t v=N l->∃x,K0.ok x/\v=K0.val x
section
variable {K0:lU κ}
theorem lU.Good.apart(G:K0.Good){a b:κ}(e:K0.ok a)(f:K0.ok b)(d:a≠b):K0.lit a≠K0.lit b:=λc=>d (G.inj a b (G.keyed.inj (G.key e) (by rw[c];exact G.key f)))
end
def hv:ε->Option (DataW ε×List MemPlace):=λv=>N (.held v,[])
def aC(K0:lU κ)(w:Z)(b:Nat)(m:κ->Option ε)(n:Nat):Prop:=
 ∃c,w.ownsMap δ K0.t hv b n c/\(∀a,K0.ok a->∀d,c.atKey (K0.lit a) d=((m a).map DataW.held).getD d)/\(∀a,K0.ok a->Maps.has c (K0.lit a)=(m a).isSome)
open Classical in
noncomputable def put(m:κ->Option ε)(b:κ)(v:Option ε):κ->Option ε:=λa=>if a=b then v else m a
theorem dJ(m:κ->Option ε)(a:κ)(v:Option ε):put m a v a=v:=by simp[put]
theorem dI(m:κ->Option ε)(b:κ)(v:Option ε)(a:κ)(c:a≠b):put m b v a=m a:=by simp[put,c]
section
variable {K0:lU κ} {w w':Z} {b n:Nat} {m:κ->Option ε}
theorem aC.lt(a:aC K0 w b m n):b<w.heap.size:=by obtain⟨d,c,_⟩:=a;exact c.lt
theorem aC.same(d:aC K0 w b m n)(g:w'.heap[b]? =w.heap[b]?):aC K0 w' b m n:=by obtain⟨a,⟨c,clock,f,h⟩,e⟩:=d;exact⟨a,⟨c,clock,g.trans f,h⟩,e⟩
theorem aC.keeps{F:Bs}(a:aC K0 w b m n)(d:Y w w' F)(c:¬F b):aC K0 w' b m n:=a.same (d.block b a.lt c)
theorem aC.alloc(a:aC K0 w b m n)(c:Obj):aC K0 (w.alloc c) b m n:=a.same (JW w c b a.lt)
theorem aC.drew(a:aC K0 w b m n):aC K0 w.drew b m n:=a.same rfl
theorem aC.drewN(a:aC K0 w b m n)(c:Nat):aC K0 (w.drewN c) b m n:=a.same rfl
theorem aC.mono(d:aC K0 w b m n){a:Nat}(g:n<=a):aC K0 w b m a:=by obtain⟨c,e,f⟩:=d;exact⟨c,e.mono g,f⟩
theorem aC.made(K0:lU κ)(w:Z):aC K0 (w.alloc (.map #[] 0)) w.heap.size (λ_=>A) 0:=
 ⟨_,World.ownsMap_made w _ _ _,λ_ _ _=>rfl,λ_ _=>rfl⟩
variable (G:K0.Good)
include G
theorem aC.look{t e:aQ}(g:aC K0 w b m n)(j:prog.underlying t=N (.map K0.t e)){z:ε}(k:(zeroValue e).run δ w= .ok z w){x:κ}(f:K0.ok x):(cw t (ω (N b)) (K0.val x) false).run δ w= .ok ((m x).getD z) w:=by
 obtain⟨l,h,i,_⟩:=g;obtain⟨v,o,d,a⟩:=h.lookup G.keyed j k (zd:= .held z) (zp:=[]) rfl (G.key f);rw[i x f] at a;cases c:m x with
 |none=>rw[c] at a;simp[hv] at a;rw[d,a.1];rfl
 |some p=>rw[c] at a;simp[hv] at a;rw[d,a.1];rfl
theorem aC.look_ok{t e:aQ}(g:aC K0 w b m n)(k:prog.underlying t=N (.map K0.t e)){z:ε}(l:(zeroValue e).run δ w= .ok z w){x:κ}(f:K0.ok x):(cw t (ω (N b)) (K0.val x) true).run δ w= .ok (σ #[(m x).getD z,ι (m x).isSome]) w:=by
 obtain⟨o,h,i,j⟩:=g;obtain⟨v,p,d,a⟩:=h.look_ok G.keyed k l (zd:= .held z) (zp:=[]) rfl (G.key f);rw[i x f] at a;rw[j x f] at d;cases c:m x with
 |none=>rw[c] at a;simp[hv] at a;rw[d,a.1,c];rfl
 |some q=>rw[c] at a;simp[hv] at a;rw[d,a.1,c];rfl
theorem aC.store{t e:aQ}(j:aC K0 w b m n)(q:prog.underlying t=N (.map K0.t e))(o:n<Χ){x:κ}(d:K0.ok x)(v:ε):∃w',(Instr.mapUpdate t (ω (N b)) (K0.val x) v).run δ w= .ok () w'/\aC K0 w' b (put m x (N v)) (n+1)/\Y w w' (·=b):=by
 obtain⟨s,f,k,l⟩:=j;obtain⟨w',p,r,i⟩:=f.update G.keyed q o (G.key d) (val:=v) (d:= .held v) (ps:=[]) rfl;have g:=f.isMap;have h:WideAt.IsKeyLit (K0.lit x):=Keyed.key G.keyed (v:=K0.val x) (l:=K0.lit x) (G.key d);refine⟨w',p,⟨_,r,λc a y=> ?_,λc a=> ?_⟩,Y.jy i (λu e=>(cr e).symm)⟩
 .by_cases e:c=x
  .subst e;rw[dJ,atKey_put_same g h];rfl
  rw[dI _ _ _ _ e,atKey_put_other (G.apart a d e),k c a]
 by_cases e:c=x
 .subst e;rw[dJ,has_put_same g h];rfl
 rw[dI _ _ _ _ e,has_put_other (G.apart a d e),l c a]
theorem aC.drop{t e:aQ}(h:aC K0 w b m n)(o:prog.underlying t=N (.map K0.t e)){x:κ}(d:K0.ok x)(f:aQ):∃w',(Builtin.delete_ #[t,K0.t] f #[ω (N b),K0.val x]).run δ w= .ok (σ #[]) w'/\aC K0 w' b (put m x A) n/\Y w w' (·=b):=by
 obtain⟨q,i,j,k⟩:=h;obtain⟨w',l,p,g⟩:=i.drop G.keyed o (G.key d) f;refine⟨w',l,⟨_,p,λc a s=> ?_,λc a=> ?_⟩,Y.jy (World.mapTurned.grown g) (λr e=>(cr e).symm)⟩
 .by_cases e:c=x
  .subst e;rw[dJ,atKey_del_same];rfl
  rw[dI _ _ _ _ e,atKey_del_other (G.apart a d e),j c a]
 by_cases e:c=x
 .subst e;rw[dJ,has_del_same];rfl
 rw[dI _ _ _ _ e,has_del_other (G.apart a d e),k c a]
omit G in
theorem aC.Wi{t e:aQ}(c:aC K0 w b m n)(f:prog.underlying t=N (.map K0.t e))(g:aQ):
 ∃w',(JE #[t] g #[ω (N b)]).run δ w= .ok (σ #[]) w'/\aC K0 w' b (λ_=>A) 0/\Y w w' (·=b):=by
 obtain⟨h,⟨j,clock,a,i,k,rfl⟩,_⟩:=c;refine⟨ChangeMaps.setBlock w b (.map #[] clock),?_,⟨.map [],⟨#[],clock,ChangeMaps.heap_setBlock_same a _,⟨by simp,MapKept.stamped_empty clock,by simp⟩,Ο _,rfl⟩,λ_ _ _=>rfl,λ_ _=>rfl⟩,⟨rfl,rfl,rfl,by simp[ChangeMaps.setBlock],λl _ d=>ChangeMaps.heap_setBlock_other a _ d⟩⟩;simp[JE,run_underlying f,MapKept.run_getObj_map a,MapKept.run_setObj_map _ a,Result.andThen,ChangeMaps.setBlock]
end
theorem aC.len{K0:lU κ}{w:Z}{b n:Nat}{m:κ->Option ε}(j:aC K0 w b m n){e h:aQ}(r:prog.underlying e=N (.map K0.t h))(f:aQ):∃d:Nat,(Builtin.len_ #[e] f #[ω (N b)]).run δ w= .ok (I E d) w/\aC K0 w b m d/\d<=n:=by
 obtain⟨s,c,k,l⟩:=j;have p:=c.len r f;have t:=c.size_le;obtain⟨a,clock,o,g,q,rfl⟩:=c;have i:xL (DataW.map ((a.toList.map (J0 δ K0.t hv)).foldr DataW.insert []))=a.size:=by simp[xL,length_sorted]
 refine⟨a.size,by rw[<-i];exact p,⟨_,⟨a,clock,o,g,Ο _,rfl⟩,k,l⟩,q⟩
theorem PC{o:Type}:∀(b d:List o),b.Nodup->(∀c∈b,c∈d)->b.length<=d.length
 |[],_,_,_=>ai _
 |c::b,d,a,f=>by
  obtain⟨j,k⟩:=List.nodup_cons.1 a;obtain⟨m,n,e⟩:=List.append_of_mem (f c (List.mem_cons_self ..));subst e
  have:=PC b (m++n) k (λi g=>by
   have h:=f i (List.mem_cons_of_mem _ g);have l:i≠c:=λe=>j (e▸g);simp only[dO,dD] at h⊢;obtain a|a|a:=h
   .exact .inl a
   .exact ahN a l
   exact .inr a)
  simp at this⊢;omega
theorem aC.tight{K0:lU κ}{w:Z}{b n:Nat}{m:κ->Option ε}(G:K0.Good)(o:aC K0 w b m n)(f:List κ)(r:∀a,K0.ok a->(m a).isSome=true->a∈f):aC K0 w b m f.length:=by obtain⟨y,⟨d,clock,t,c,z,rfl⟩,p,k⟩:=o;refine⟨_,⟨d,clock,t,c,?_,rfl⟩,p,k⟩;have q:(d.toList.map (·.key)).Nodup:=c.stamped.2.2;have:=PC (d.toList.map (·.key)) (f.map K0.val) q (λv x=>by obtain⟨g,l,rfl⟩:=eO.1 x;obtain⟨A,h⟩:=c.reads g l;obtain⟨a,e,j⟩:=G.Dz (WideElems.rd_key h);refine eO.2 ⟨a,r a e ?_,j.symm⟩;rw[<-k a e];have u:WideAt.IsKeyLit (K0.lit a):=Keyed.key G.keyed (v:=K0.val a) (l:=K0.lit a) (G.key e);have s:=WideShapes.atKey_sorted (d.toList.map (J0 δ K0.t hv)) (fit_rising G.keyed c) (K0.lit a) u;refine has_true_of_atKey (s.2 (J0 δ K0.t _ g) (eO.2 ⟨g,l,rfl⟩) ?_);have i:=WideElems.rd_key h;rw[j,G.key e] at i;rw[WideElems.rg_of h];exact(cr i).symm);simpa using this
def bR:lU BA:=⟨9,H,λa=>Lit.string a.data.toList,λa=>a.size<=Χ⟩
def cM:lU Int:=⟨3,I E,Lit.int E,λn=> -9223372036854775808<=n/\n<=9223372036854775807⟩
def iY:lU (BA×BA):=⟨146,λa=> .agg #[H a.1,H a.2],λa=>Lit.string (keyBytes [Lit.string a.1.data.toList,Lit.string a.2.data.toList]),λa=>a.1.size<=Χ/\a.2.size<=Χ⟩
theorem ti:prog.underlying 9=N .string:=by kernel_rfl
theorem rz:prog.underlying 3=N (.int E):=by kernel_rfl
theorem dG:bR.Good where
 keyed:=string_keyed ti
 key h:=WideMaps.keyOf_string_mk ti h
 inj x y h:=by simpa[bR] using h
 Dz {v l} h:=by
  unfold keyOf at h;simp only[bR,ti] at h;unfold mapKey at h;rw[ti] at h;cases v<;>simp at h
  rename_i a;exact⟨a,h.1,rfl⟩
theorem fI:cM.Good where
 keyed:=int_keyed rz
 key h:=keyOf_int_mk rz (by simp[Lit.wf,IntKind.min,IntKind.max,Em,Ek];exact h)
 inj x y h:=by simpa[cM] using h
 Dz {v l} h:=by
  unfold keyOf at h;simp only[cM,rz] at h;unfold mapKey at h;rw[rz] at h;cases v<;>simp at h
  rename_i b n;obtain⟨⟨rfl,a⟩,_⟩:=h;refine⟨n,?_,rfl⟩;simp[Lit.wf,IntKind.min,IntKind.max,Em,Ek] at a;exact a
end
section
open Go.Maps
theorem agx:prog.types.size+2<=10000:=of_decide_eq_true (by kernel_rfl)
theorem Jl:146<prog.types.size:=of_decide_eq_true (by kernel_rfl)
theorem Jh:prog.keyType 146=true:=by kernel_rfl
theorem xy:prog.underlying 146=N (.array 2 9):=by kernel_rfl
theorem DI:prog.cellsOf 146=2:=by kernel_rfl
theorem QR:prog.cellsOf 9=1:=by kernel_rfl
theorem Jk:laidOutB δ=true:=by kernel_rfl
theorem aau:WideMaps.KeyLaw δ 146:=deep_law_gate Jk agx Jl Jh (by rw[xy])
theorem OM(b:Nat)(a:BA)(c:a.size<=Χ):prog.keyLits (b+1) 9 [H a]=N [Lit.string a.data.toList]:=by unfold JM;rw[ti];simp[c]
theorem aaF(c:Nat)(a b:BA)(e:a.size<=Χ)(f:b.size<=Χ):prog.keyLits (c+2) 146 [H a,H b]=N [Lit.string a.data.toList,Lit.string b.data.toList]:=by unfold JM;rw[xy];simp only[DI,QR,List.length_cons,List.length_nil,Nat.reduceAdd,if_true];have e0:=OM c a e;have d:=OM c b f;simp[List.range_succ,e0,d]
theorem aah(a b:BA)(e:a.size<=Χ)(f:b.size<=Χ):keyOf δ 146 (.agg #[H a,H b])=N (Lit.string (keyBytes [Lit.string a.data.toList,Lit.string b.data.toList])):=by unfold keyOf;rw[xy];simp only[Jh,JZ,xy,DI,tB];obtain⟨c,hd⟩:∃c,prog.types.size+1=c+2:=⟨prog.types.size-1,by have:=Jl;omega⟩;rw[hd];have d:=aaF c a b e f;simp[vl,d]
theorem OQ(d:Nat)(c:ε)(e:List Lit)(a:prog.keyLits (d+1) 9 [c]=N e):∃b:BA,c=H b/\b.size<=Χ:=by
 unfold JM at a;rw[ti] at a;cases c<;>simp at a
 rename_i b;exact⟨b,rfl,a.1⟩
theorem aej{g:Lit}(a:keyOf δ 146 x=N g):∃j,iY.ok j/\x=iY.val j:=by
 unfold keyOf at a;rw[xy] at a;simp only[] at a;by_cases e:(prog.keyType 146&&JZ δ 146 x)=true
 .rw[ahM e] at a;simp only[Jh,tB] at e;cases x with
  |agg h=>
   simp[JZ,DI] at e
   obtain⟨b,c,rfl⟩:∃b c,h=#[b,c]:=by
    obtain⟨g⟩:=h;match g,e with
    |[b,c],_=>exact⟨b,c,rfl⟩
   obtain⟨d,hd⟩:∃d,prog.types.size+1=d+2:=⟨prog.types.size-1,by have:=Jl;omega⟩;rw[hd] at a;unfold JM at a;rw[xy] at a;simp[DI,QR,vl,List.range_succ] at a;cases f:prog.keyLits (d+1) 9 [b] with
   |none=>rw[f] at a;simp at a
   |some o=>
   cases i:prog.keyLits (d+1) 9 [c] with
   |none=>rw[f,i] at a;simp at a
   |some p=>
   obtain⟨k,rfl,m⟩:=OQ d b _ f;obtain⟨l,rfl,n⟩:=OQ d c _ i;exact⟨(k,l),⟨m,n⟩,rfl⟩
  |_=>simp[JZ] at e
 rw[WB e] at a;cases a
theorem qT:iY.Good where
 keyed:=Keyed.of_law aau
 key h:=aah _ _ h.1 h.2
 inj x y h:=by obtain⟨a,b⟩:=x;obtain⟨c,d⟩:=y;simpa[iY] using h
 Dz h:=aej h
end
abbrev S(b:Int)(a c:Bool):ε:= .agg #[I E b,ι a,ι c]
abbrev St(c:Int)(a e d b:Bool):ε:= .agg #[I E c,ι a,ι e,ι d,ι b]
def gu(a:Int):Bool:=a==1||a==3
def fL(a:Int):Bool:=a==2||a==3
def dL(a:Int)(b c:Bool):Bool:=decide (0<=a)&&decide (a<=3)&& !(b&&gu a)&& !(c&&fL a)
theorem IG(a:Int)(e f:Bool)(c:Z):ν δ 58 #[S a e f] c λb h=>b=ξ (ι (gu a))/\bH c.heap.size c h:=by
 by_cases d:a=1
 .subst d;go_enter func58,ntmps58;go_wp2;go_ret;exact⟨rfl,(iz _ _).alloc (Ο _) _⟩
 have g:(a==1)=false:=by simpa using d
 have b:gu a=(a==3):=by simp[gu,g]
 rw[b];clear b;go_enter func58,ntmps58;go_wp2;go_ret;exact⟨lc (by simp),(iz _ _).alloc (Ο _) _⟩
theorem Qf(a:Int)(e f:Bool)(c:Z):ν δ 322 #[S a e f] c λb h=>b=ξ (ι (fL a))/\bH c.heap.size c h:=by
 by_cases d:a=2
 .subst d;go_enter func322,ntmps322;go_wp2;go_ret;exact⟨rfl,(iz _ _).alloc (Ο _) _⟩
 have g:(a==2)=false:=by simpa using d
 have b:fL a=(a==3):=by simp[fL,g]
 rw[b];clear b;go_enter func322,ntmps322;go_wp2;go_ret;exact⟨lc (by simp),(iz _ _).alloc (Ο _) _⟩
theorem zR(a:0<=m)(b:m<=3):m=0\/m=1\/m=2\/m=3:=by omega
theorem ac8(a:Int)(b c:Bool)(f:0<=a)(g:a<=3)(d:Z):ν δ 383 #[S a b c] d λe h=>e=ξ (ι (dL a b c))/\bH d.heap.size d h:=by
 rcases zR f g with rfl|rfl|rfl|rfl<;>cases b<;>cases c
 all_goals
  go_enter func383,ntmps383;go_wp2;go_ret;exact⟨rfl,by repeat (first|exact iz _ _|(refine EG ?_ (by simp;try omega) _))⟩
theorem ac9(b:Int)(c d:Bool)(g:b<0)(e:Z):ν δ 383 #[S b c d] e λa f=>a=ξ (ι (dL b c d))/\bH e.heap.size e f:=by
 have a:dL b c d=false:=by simp[dL];omega
 rw[a];clear a;go_enter func383,ntmps383;go_wp2;go_ret;exact⟨lc (by simp),(iz _ _).alloc (Ο _) _⟩
theorem ac7(b:Int)(c d:Bool)(g:3<b)(e:Z):ν δ 383 #[S b c d] e λa f=>a=ξ (ι (dL b c d))/\bH e.heap.size e f:=by
 have a:dL b c d=false:=by simp[dL];omega
 rw[a];clear a;go_enter func383,ntmps383;go_wp2;go_ret;exact⟨lc (by simp),(iz _ _).alloc (Ο _) _⟩
theorem ac4(a:Int)(c d:Bool)(b:Z):ν δ 383 #[S a c d] b λe h=>e=ξ (ι (dL a c d))/\bH b.heap.size b h:=by
 by_cases f:a<0
 .exact ac9 a c d f b
 by_cases g:3<a
 .exact ac7 a c d g b
 exact ac8 a c d (by omega) (by omega) b
def eM(a:Bool)(b c:Int):Int:=if a then b else c
def bW(a b c:Bool):Bool:=if a then b else c
theorem qk(a:Bool)(f:Int)(b d:Bool)(g:Int)(c e:Bool)(h:Z):ν δ 384 #[ι a,S f b d,S g c e] h λi j=>i=ξ (St (eM a g f) (bW a c b) (bW a e d) a false)/\bH h.heap.size h j:=by
 cases a
 .go_enter func384,ntmps384;go_wp2;exact Ω (v:=St f b d false false) (by simp[ag,results384,go_sem]) rfl ⟨rfl,by repeat (first|exact iz _ _|(refine EG ?_ (by simp;try omega) _))⟩
 go_enter func384,ntmps384;go_wp2;exact Ω (v:=St g c e true false) (by simp[ag,results384,go_sem]) rfl ⟨rfl,by repeat (first|exact iz _ _|(refine EG ?_ (by simp;try omega) _))⟩
def jX(a:Int)(b:Bool):Int:=(if a==1||a==3 then 1 else 0)+if b then 2 else 0
def jU(a:Int)(b:Bool):Int:=(if a==2||a==3 then 2 else 0)+if b then 1 else 0
theorem zM(a:Int)(b e c:Bool)(g:0<=a)(h:a<=3)(d:Z):ν δ 385 #[S a b e,ι c] d λf i=>f=ξ (S (jX a c) b false)/\bH d.heap.size d i:=by
 have j:bits qm E 0 1=0:=by decide
 have k:bits qm E 1 1=1:=by decide
 have l:bits qm E 2 1=0:=by decide
 have m:bits qm E 3 1=1:=by decide
 have n:bits BinOp.or E 0 2=2:=by decide
 have o:bits BinOp.or E 1 2=3:=by decide
 rcases zR g h with rfl|rfl|rfl|rfl<;>cases c
 all_goals
  go_enter func385,ntmps385;go_wp2;refine Ω (v:=S _ b false) (by simp[ag,results385,go_sem];rfl) rfl ⟨rfl,?_⟩;repeat (first|exact iz _ _|(refine EG ?_ (by simp;try omega) _))
theorem zK(a:Int)(e b c:Bool)(g:0<=a)(h:a<=3)(d:Z):ν δ 386 #[S a e b,ι c] d λf i=>f=ξ (S (jU a c) false b)/\bH d.heap.size d i:=by
 have j:bits qm E 0 2=0:=by decide
 have k:bits qm E 1 2=0:=by decide
 have l:bits qm E 2 2=2:=by decide
 have m:bits qm E 3 2=2:=by decide
 have n:bits BinOp.or E 0 1=1:=by decide
 have o:bits BinOp.or E 2 1=3:=by decide
 rcases zR g h with rfl|rfl|rfl|rfl<;>cases c
 all_goals
  go_enter func386,ntmps386;go_wp2;refine Ω (v:=S _ false b) (by simp[ag,results386,go_sem];rfl) rfl ⟨rfl,?_⟩;repeat (first|exact iz _ _|(refine EG ?_ (by simp;try omega) _))
theorem mL(n:Int)(a b:Bool)(d:dL n a b=true)(w:Z):ν δ 383 #[S n a b] w λc w'=>c=ξ (ι true)/\bH w.heap.size w w':=by rw[<-d];exact ac4 n a b w
section
variable {w w':Z} {g:Nat} {t:aQ} {cs:Array ε}
theorem θ.below{a:Nat}(b:θ w g t cs)(c:bH a w w')(d:g<a):θ w' g t cs:=(c.block g d).trans b
end
def fP(w0:Z)(n:Int)(a b:Bool)(w:Z):Prop:=
 θ w w0.heap.size 148 #[I E n,ι a,ι b]/\(∃c d e f g,θ w (w0.heap.size+1) 405 #[c,d,e,f,g])/\bH w0.heap.size w0 w
section
variable {w0 W w2:Z} {n:Int} {a b:Bool}
theorem qd(w0:Z)(n:Int)(a b:Bool)(c d e f g:ε){i:Z}(h:bH ((w0.alloc (ζ #[I E n,ι a,ι b] 148)).alloc (ζ #[c,d,e,f,g] 405)).heap.size ((w0.alloc (ζ #[I E n,ι a,ι b] 148)).alloc (ζ #[c,d,e,f,g] 405)) i):fP w0 n a b i:=by
 refine⟨((θ.new _ _ _).alloc _).below h (by simp;omega),⟨c,d,e,f,g,?_⟩,?_⟩
 .have j:=θ.new (w0.alloc (ζ #[I E n,ι a,ι b] 148)) 405 #[c,d,e,f,g];have k:θ ((w0.alloc (ζ #[I E n,ι a,ι b] 148)).alloc (ζ #[c,d,e,f,g] 405)) (w0.heap.size+1) 405 #[c,d,e,f,g]:=by simpa using j
  exact k.below h (by simp)
 exact(((iz _ _).alloc (Ο _) _).alloc (by simp) _).trans (h.mono (by simp;omega))
theorem xi(c:bH W.heap.size W w2)(l:fP w0 n a b W):fP w0 n a b w2:=by obtain⟨d,⟨g,h,i,j,k,e⟩,f⟩:=l;exact⟨d.below c d.lt,⟨g,h,i,j,k,e.below c e.lt⟩,f.trans (c.mono f.size)⟩
theorem acZ(c:fP w0 n a b W):fP w0 n a b W.drew:=⟨c.1,c.2.1,c.2.2.drew⟩
theorem bS(j:fP w0 n a b W)(d:Nat)(v:ε):fP w0 n a b (W.setCell ⟨w0.heap.size+1,d,A⟩ v):=by
 obtain⟨k,⟨e,f,g,h,i,l⟩,m⟩:=j;refine⟨k.far (by simp) v,?_,m.setCell (by simp) v⟩;have c:=l.χ d v;obtain _|_|_|_|_|d:=d
 .exact⟨_,_,_,_,_,c⟩
 .exact⟨_,_,_,_,_,c⟩
 .exact⟨_,_,_,_,_,c⟩
 .exact⟨_,_,_,_,_,c⟩
 .exact⟨_,_,_,_,_,c⟩
 exact⟨e,f,g,h,i,c⟩
theorem qe(c:fP w0 n a b W):W.cell? (U w0.heap.size 0 A)=N (I E n)/\W.cell? (U w0.heap.size 1 A)=N (ι a)/\W.cell? (U w0.heap.size 2 A)=N (ι b):=
 ⟨c.1.cell 0,c.1.cell 1,c.1.cell 2⟩
theorem oK(c:fP w0 n a b W):W.cell? (U w0.heap.size 0 A)=N (I E n)/\W.cell? (U w0.heap.size 1 A)=N (ι a)/\W.cell? (U w0.heap.size 2 A)=N (ι b)/\fP w0 n a b W:=
 ⟨c.1.cell 0,c.1.cell 1,c.1.cell 2,c⟩
theorem gp(w0:Z)(n:Int)(a b:Bool){W w2:Z}(d:bH W.heap.size W w2)(c:W.cell? (U w0.heap.size 0 A)=N (I E n)/\W.cell? (U w0.heap.size 1 A)=N (ι a)/\W.cell? (U w0.heap.size 2 A)=N (ι b)/\fP w0 n a b W):fP w0 n a b w2:=xi d c.2.2.2
theorem uG{w0:Z}{n:Int}{a b:Bool}{W:Z}(c:fP w0 n a b W):W.drew.cell? (U w0.heap.size 0 A)=N (I E n)/\W.drew.cell? (U w0.heap.size 1 A)=N (ι a)/\W.drew.cell? (U w0.heap.size 2 A)=N (ι b)/\fP w0 n a b W.drew:=oK (acZ c)
theorem oL(i:fP w0 n a b W):∃d e f g h:ε,W.cell? ⟨w0.heap.size+1,0,A⟩=N d/\W.cell? ⟨w0.heap.size+1,1,A⟩=N e/\W.cell? ⟨w0.heap.size+1,2,A⟩=N f/\W.cell? ⟨w0.heap.size+1,3,A⟩=N g/\W.cell? ⟨w0.heap.size+1,4,A⟩=N h/\W.frozen? ⟨w0.heap.size+1,0,A⟩=false/\W.frozen? ⟨w0.heap.size+1,1,A⟩=false/\W.frozen? ⟨w0.heap.size+1,2,A⟩=false/\W.frozen? ⟨w0.heap.size+1,3,A⟩=false/\W.frozen? ⟨w0.heap.size+1,4,A⟩=false:=by obtain⟨_,⟨d,e,f,g,h,c⟩,_⟩:=i;exact⟨d,e,f,g,h,c.cell 0,c.cell 1,c.cell 2,c.cell 3,c.cell 4,c.frozen 0,c.frozen 1,c.frozen 2,c.frozen 3,c.frozen 4⟩
end
theorem Dq(n:Int)(a b t:Bool)(d:η (gu n=t))(w:Z):ν δ 58 #[S n a b] w λc w'=>c=ξ (ι t)/\bH w.heap.size w w':=by have e:gu n=t:=d;rw[<-e];exact IG n a b w
theorem xj(n:Int)(a b t:Bool)(d:η (fL n=t))(w:Z):ν δ 322 #[S n a b] w λc w'=>c=ξ (ι t)/\bH w.heap.size w w':=by have e:fL n=t:=d;rw[<-e];exact Qf n a b w
theorem Xf(n:Int)(a b:Bool)(h:η (dL n a b=true))(i:0<=n)(j:n<=3)(w:Z):ν δ 356 #[S n a b,I E 2] w λc w'=>c=ξ (σ #[St (eM b (jX n true) n) (bW b a a) (bW b false b) b false,I E 0])/\bH w.heap.size w w':=by
 go_enter Ar,Av;go_wp2_with (go_at_call 383;refine(mL n a b h _).mono ?_;rintro c H ⟨rfl,d⟩;have F:=qd _ _ _ _ _ _ _ _ _ d;clear d)
 go_region_held3 (λw'=>w'.cell? (U w.heap.size 0 A)=N (I E n)/\w'.cell? (U w.heap.size 1 A)=N (ι a)/\w'.cell? (U w.heap.size 2 A)=N (ι b)/\fP w n a b w') (first|((with_reducible refine uG ?_);assumption)|(refine oK ?_;(repeat (with_reducible refine bS ?_ _ _));assumption))
  (first|(go_at_call 385;refine(zM n a b true i j _).mono ?_;rintro c w2 ⟨rfl,e⟩;have G:=gp w n a b e (by assumption);clear e)|(go_at_call 384;refine(qk b n a b (jX n true) a false _).mono ?_;rintro c J ⟨rfl,f⟩;have g:=gp w n a b f (by assumption);clear f;obtain⟨q,r,s,t,u,k,l,m,o,p,x,y,z,B,C⟩:=oL g))
 go_wp2;refine Ω (v:=σ #[St (eM b (jX n true) n) (bW b a a) (bW b false b) b false,I E 0]) (by simp[ag,EC,go_sem,k,l,m,o,p]) rfl ⟨rfl,?_⟩;exact(bS (bS (bS (bS (bS g 0 _) 1 _) 2 _) 3 _) 4 _).2.2
theorem Xg(n:Int)(a b:Bool)(i:η (dL n a b=true))(j:0<=n)(k:n<=3)(l:η (gu n=false))(w:Z):ν δ 356 #[S n a b,I E 3] w λc w'=>c=ξ (σ #[St (eM a (jU n false) n) (bW a false a) (bW a b b) a false,I E 0])/\bH w.heap.size w w':=by
 go_enter Ar,Av;go_wp2_with (go_at_call 383;refine(mL n a b i _).mono ?_;rintro c L ⟨rfl,d⟩;have H:=qd _ _ _ _ _ _ _ _ _ d;clear d)
 go_region_held3 (λw'=>w'.cell? (U w.heap.size 0 A)=N (I E n)/\w'.cell? (U w.heap.size 1 A)=N (ι a)/\w'.cell? (U w.heap.size 2 A)=N (ι b)/\fP w n a b w') (first|((with_reducible refine uG ?_);assumption)|(refine oK ?_;(repeat (with_reducible refine bS ?_ _ _));assumption))
  (first|(go_at_call 58;refine(Dq n a b false l _).mono ?_;rintro c O ⟨rfl,g⟩;have K:=gp w n a b g (by assumption);clear g)|(go_at_call 386;refine(zK n a b false j k _).mono ?_;rintro c w2 ⟨rfl,e⟩;have J:=gp w n a b e (by assumption);clear e)|(go_at_call 384;refine(qk a n a b (jU n false) false b _).mono ?_;rintro c M ⟨rfl,f⟩;have h:=gp w n a b f (by assumption);clear f;obtain⟨s,t,u,x,y,m,o,p,q,r,z,B,C,F,G⟩:=oL h))
 go_wp2;refine Ω (v:=σ #[St (eM a (jU n false) n) (bW a false a) (bW a b b) a false,I E 0]) (by simp[ag,EC,go_sem,m,o,p,q,r]) rfl ⟨rfl,?_⟩;exact(bS (bS (bS (bS (bS h 0 _) 1 _) 2 _) 3 _) 4 _).2.2
theorem Xi(n:Int)(a b:Bool)(i:η (dL n a b=true))(j:0<=n)(k:n<=3)(l:η (fL n=false))(w:Z):ν δ 356 #[S n a b,I E 4] w λc w'=>c=ξ (σ #[St (eM b (jX n false) n) (bW b a a) (bW b false b) b false,I E 0])/\bH w.heap.size w w':=by
 go_enter Ar,Av;go_wp2_with (go_at_call 383;refine(mL n a b i _).mono ?_;rintro c L ⟨rfl,d⟩;have H:=qd _ _ _ _ _ _ _ _ _ d;clear d)
 go_region_held3 (λw'=>w'.cell? (U w.heap.size 0 A)=N (I E n)/\w'.cell? (U w.heap.size 1 A)=N (ι a)/\w'.cell? (U w.heap.size 2 A)=N (ι b)/\fP w n a b w') (first|((with_reducible refine uG ?_);assumption)|(refine oK ?_;(repeat (with_reducible refine bS ?_ _ _));assumption))
  (first|(go_at_call 322;refine(xj n a b false l _).mono ?_;rintro c O ⟨rfl,g⟩;have K:=gp w n a b g (by assumption);clear g)|(go_at_call 385;refine(zM n a b false j k _).mono ?_;rintro c w2 ⟨rfl,e⟩;have J:=gp w n a b e (by assumption);clear e)|(go_at_call 384;refine(qk b n a b (jX n false) a false _).mono ?_;rintro c M ⟨rfl,f⟩;have h:=gp w n a b f (by assumption);clear f;obtain⟨s,t,u,x,y,m,o,p,q,r,z,B,C,F,G⟩:=oL h))
 go_wp2;refine Ω (v:=σ #[St (eM b (jX n false) n) (bW b a a) (bW b false b) b false,I E 0]) (by simp[ag,EC,go_sem,m,o,p,q,r]) rfl ⟨rfl,?_⟩;exact(bS (bS (bS (bS (bS h 0 _) 1 _) 2 _) 3 _) 4 _).2.2
theorem xh{w0 W:Z}{n:Int}{a b:Bool}(j:fP w0 n a b W)(c:Obj):fP w0 n a b (W.alloc c):=by obtain⟨k,⟨e,f,g,h,i,l⟩,d⟩:=j;exact⟨k.alloc c,⟨e,f,g,h,i,l.alloc c⟩,d.alloc d.size c⟩
theorem ac0{w0 W:Z}{n:Int}{a b:Bool}(i:fP w0 n a b W){g:Nat}(o:w0.heap.size+1<g)(m:Nat)(v:ε):fP w0 n a b (W.setCell (U g m A) v):=by obtain⟨j,⟨c,d,e,f,h,k⟩,l⟩:=i;exact⟨j.far (by simp;omega) v,⟨c,d,e,f,h,k.far (by simp;omega) v⟩,l.setCell (by simp;omega) v⟩
theorem P8{w0 W:Z}{n:Int}{a b:Bool}(c:fP w0 n a b W):w0.heap.size+1<W.heap.size:=by obtain⟨_,⟨_,_,_,_,_,d⟩,_⟩:=c;exact d.lt
theorem Xe(n:Int)(a b:Bool)(l:η (dL n a b=true))(w:Z):ν δ 356 #[S n a b,I E 1] w λc w'=>c=ξ (σ #[St (eM true n n) (bW true (!gu n) a) (bW true b b) true false,I E 0])/\bH w.heap.size w w':=by
 go_enter Ar,Av;go_wp2_with fail;refine(mL n a b l _).mono ?_;rintro c f ⟨rfl,h⟩;have e:=qd _ _ _ _ _ _ _ _ _ h;clear h;have x:=P8 e;have L:¬f.heap.size=w.heap.size:=by omega
 have M:¬w.heap.size=f.heap.size:=by omega
 have N:¬f.heap.size=w.heap.size+1:=by omega
 have O:¬w.heap.size+1=f.heap.size:=by omega
 obtain⟨y0,R,T⟩:=qe e;obtain⟨V,W,X⟩:=qe (xh e (ζ #[I E n,ι a,ι b] 148));go_wp2_with fail;refine(IG n a b _).mono ?_;rintro c w2 ⟨rfl,g⟩;have j:=xi g (xh e _);have d:=(θ.new _ _ _).below g (by simp);clear g;obtain⟨Y,aa,ab⟩:=qe j;have m:=d.cell 0;have o:=d.cell 1;have p:=d.cell 2;have P:=d.frozen 1;simp only[gz_] at m o p;go_wp2_with fail;refine(qk true n a b n (!gu n) b _).mono ?_;rintro c Q ⟨rfl,i⟩;have k:=xi i (ac0 j x _ _);clear i;obtain⟨y,z,A,B,C,q,r,s,t,u,F,G,H,J,K⟩:=oL k;go_wp2;refine Ω (v:=σ #[St (eM true n n) (bW true (!gu n) a) (bW true b b) true false,I E 0]) (by simp[ag,EC,go_sem,q,r,s,t,u]) rfl ⟨rfl,?_⟩;exact(bS (bS (bS (bS (bS k 0 _) 1 _) 2 _) 3 _) 4 _).2.2
theorem Zk(b:Int)(a c:Bool)(k:η (dL b a c=true))(l:0<=b)(m:b<=3)(d:Z):ν δ 357 #[S b a c,I E 2] d λf e=>f=ξ (σ #[St (eM a (jU b true) b) (bW a false a) (bW a c c) a false,I E 0])/\bH d.heap.size d e:=by
 go_enter xN,xP;go_wp2_with (go_at_call 383;refine(mL b a c k _).mono ?_;rintro f J ⟨rfl,g⟩;have G:=qd _ _ _ _ _ _ _ _ _ g;clear g)
 go_region_held3 (λe=>e.cell? (U d.heap.size 0 A)=N (I E b)/\e.cell? (U d.heap.size 1 A)=N (ι a)/\e.cell? (U d.heap.size 2 A)=N (ι c)/\fP d b a c e) (first|((with_reducible refine uG ?_);assumption)|(refine oK ?_;(repeat (with_reducible refine bS ?_ _ _));assumption))
  (first|(go_at_call 386;refine(zK b a c true l m _).mono ?_;rintro f K ⟨rfl,h⟩;have H:=gp d b a c h (by assumption);clear h)|(go_at_call 384;refine(qk a b a c (jU b true) false c _).mono ?_;rintro f L ⟨rfl,i⟩;have j:=gp d b a c i (by assumption);clear i;obtain⟨s,t,u,w,x,n,o,p,q,r,y,z,B,C,F⟩:=oL j))
 go_wp2;refine Ω (v:=σ #[St (eM a (jU b true) b) (bW a false a) (bW a c c) a false,I E 0]) (by simp[ag,Ax,go_sem,n,o,p,q,r]) rfl ⟨rfl,?_⟩;exact(bS (bS (bS (bS (bS j 0 _) 1 _) 2 _) 3 _) 4 _).2.2
theorem Zl(b:Int)(c a:Bool)(l:η (dL b c a=true))(m:0<=b)(n:b<=3)(o:η (fL b=false))(d:Z):ν δ 357 #[S b c a,I E 3] d λf e=>f=ξ (σ #[St (eM a (jX b false) b) (bW a c c) (bW a false a) a false,I E 0])/\bH d.heap.size d e:=by
 go_enter xN,xP;go_wp2_with (go_at_call 383;refine(mL b c a l _).mono ?_;rintro f M ⟨rfl,g⟩;have J:=qd _ _ _ _ _ _ _ _ _ g;clear g)
 go_region_held3 (λe=>e.cell? (U d.heap.size 0 A)=N (I E b)/\e.cell? (U d.heap.size 1 A)=N (ι c)/\e.cell? (U d.heap.size 2 A)=N (ι a)/\fP d b c a e) (first|((with_reducible refine uG ?_);assumption)|(refine oK ?_;(repeat (with_reducible refine bS ?_ _ _));assumption))
  (first|(go_at_call 322;refine(xj b c a false o _).mono ?_;rintro f Q ⟨rfl,j⟩;have L:=gp d b c a j (by assumption);clear j)|(go_at_call 385;refine(zM b c a false m n _).mono ?_;rintro f O ⟨rfl,h⟩;have K:=gp d b c a h (by assumption);clear h)|(go_at_call 384;refine(qk a b c a (jX b false) c false _).mono ?_;rintro f P ⟨rfl,i⟩;have k:=gp d b c a i (by assumption);clear i;obtain⟨u,w,x,y,z,p,q,r,s,t,B,C,F,G,H⟩:=oL k))
 go_wp2;refine Ω (v:=σ #[St (eM a (jX b false) b) (bW a c c) (bW a false a) a false,I E 0]) (by simp[ag,Ax,go_sem,p,q,r,s,t]) rfl ⟨rfl,?_⟩;exact(bS (bS (bS (bS (bS k 0 _) 1 _) 2 _) 3 _) 4 _).2.2
theorem Zn(b:Int)(a c:Bool)(l:η (dL b a c=true))(m:0<=b)(n:b<=3)(o:η (gu b=false))(d:Z):ν δ 357 #[S b a c,I E 4] d λf e=>f=ξ (σ #[St (eM a (jU b false) b) (bW a false a) (bW a c c) a false,I E 0])/\bH d.heap.size d e:=by
 go_enter xN,xP;go_wp2_with (go_at_call 383;refine(mL b a c l _).mono ?_;rintro f M ⟨rfl,g⟩;have J:=qd _ _ _ _ _ _ _ _ _ g;clear g)
 go_region_held3 (λe=>e.cell? (U d.heap.size 0 A)=N (I E b)/\e.cell? (U d.heap.size 1 A)=N (ι a)/\e.cell? (U d.heap.size 2 A)=N (ι c)/\fP d b a c e) (first|((with_reducible refine uG ?_);assumption)|(refine oK ?_;(repeat (with_reducible refine bS ?_ _ _));assumption))
  (first|(go_at_call 58;refine(Dq b a c false o _).mono ?_;rintro f Q ⟨rfl,j⟩;have L:=gp d b a c j (by assumption);clear j)|(go_at_call 386;refine(zK b a c false m n _).mono ?_;rintro f O ⟨rfl,h⟩;have K:=gp d b a c h (by assumption);clear h)|(go_at_call 384;refine(qk a b a c (jU b false) false c _).mono ?_;rintro f P ⟨rfl,i⟩;have k:=gp d b a c i (by assumption);clear i;obtain⟨u,w,x,y,z,p,q,r,s,t,B,C,F,G,H⟩:=oL k))
 go_wp2;refine Ω (v:=σ #[St (eM a (jU b false) b) (bW a false a) (bW a c c) a false,I E 0]) (by simp[ag,Ax,go_sem,p,q,r,s,t]) rfl ⟨rfl,?_⟩;exact(bS (bS (bS (bS (bS k 0 _) 1 _) 2 _) 3 _) 4 _).2.2
theorem Zj(a:Int)(b c:Bool)(j:η (dL a b c=true))(k:η (fL a=true))(f:Z):ν δ 357 #[S a b c,I E 1] f λd l=>d=ξ (σ #[St a b c false true,I E 0])/\bH f.heap.size f l:=by go_enter xN,xP;go_wp2_with fail;refine(mL a b c j _).mono ?_;rintro d C ⟨rfl,g⟩;have i:=qd _ _ _ _ _ _ _ _ _ g;clear g;obtain⟨y0,G,H⟩:=qe i;go_wp2_with fail;refine(xj a b c true k _).mono ?_;rintro d F ⟨rfl,h⟩;have e:=xi h i;clear h;obtain⟨J,K,L⟩:=qe e;obtain⟨r,s,t,u,w,m,n,o,p,q,x,y,z,A,B⟩:=oL e;go_wp2;refine Ω (v:=σ #[St a b c false true,I E 0]) (by simp[ag,Ax,go_sem,m,n,o,p,q]) rfl ⟨rfl,?_⟩;exact(bS (bS (bS (bS (bS e 0 _) 1 _) 2 _) 3 _) 4 _).2.2
theorem Zi(b:Int)(c a:Bool)(n:η (dL b c a=true))(o:η (fL b=false))(d:Z):ν δ 357 #[S b c a,I E 1] d λg p=>g=ξ (σ #[St (eM (!a) b b) (bW (!a) c c) (bW (!a) true a) (!a) false,I E 0])/\bH d.heap.size d p:=by
 go_enter xN,xP;go_wp2_with fail;refine(mL b c a n _).mono ?_;rintro g Q ⟨rfl,i⟩;have l:=qd _ _ _ _ _ _ _ _ _ i;clear i;obtain⟨y0,T,V⟩:=qe l;go_wp2_with fail;refine(xj b c a false o _).mono ?_;rintro g h ⟨rfl,j⟩;have e:=xi j l;clear j;have aa:=P8 e;have J:¬h.heap.size=d.heap.size:=by omega
 have K:¬d.heap.size=h.heap.size:=by omega
 have L:¬h.heap.size=d.heap.size+1:=by omega
 have M:¬d.heap.size+1=h.heap.size:=by omega
 obtain⟨W,X,Y⟩:=qe e;have N:=λf=>(qe (xh e f)).1;have O:=λf=>(qe (xh e f)).2.1;have P:=λf=>(qe (xh e f)).2.2;go_wp2_with fail;refine(qk (!a) b c a b c true _).mono ?_;rintro g R ⟨rfl,k⟩;have m:=xi k (xh e _);clear k;obtain⟨w,x,y,z,A,q,r,s,t,u,B,C,F,G,H⟩:=oL m;go_wp2;refine Ω (v:=σ #[St (eM (!a) b b) (bW (!a) c c) (bW (!a) true a) (!a) false,I E 0]) (by simp[ag,Ax,go_sem,q,r,s,t,u]) rfl ⟨rfl,?_⟩;exact(bS (bS (bS (bS (bS m 0 _) 1 _) 2 _) 3 _) 4 _).2.2
theorem Ci(a:Int)(b c:Bool)(f:η (dL a b c=true))(p:0<=a)(q:a<=3)(d:Z):(η (gu a=true)->ν δ 356 #[S a b c,I E 3] d λe g=>e=ξ (σ #[St (eM true (jU a false) a) (bW true false b) (bW true c c) true false,I E 0])/\bH d.heap.size d g)/\(η (fL a=true)->ν δ 356 #[S a b c,I E 4] d λe g=>e=ξ (σ #[St (eM true (jX a false) a) (bW true b b) (bW true false c) true false,I E 0])/\bH d.heap.size d g)/\(η (fL a=true)->ν δ 357 #[S a b c,I E 3] d λe g=>e=ξ (σ #[St (eM true (jX a false) a) (bW true b b) (bW true false c) true false,I E 0])/\bH d.heap.size d g)/\(η (gu a=true)->ν δ 357 #[S a b c,I E 4] d λe g=>e=ξ (σ #[St (eM true (jU a false) a) (bW true false b) (bW true c c) true false,I E 0])/\bH d.heap.size d g):=by
 refine⟨λm=> ?a,λm=> ?b,λm=> ?c,λm=> ?d⟩;case' a=>go_enter Ar,Av
 case' b=>go_enter Ar,Av
 case' c=>go_enter xN,xP
 case' d=>go_enter xN,xP
 all_goals
  go_wp2_with (go_at_call 383;refine(mL a b c f _).mono ?_;rintro e W ⟨rfl,x⟩;have V:=qd _ _ _ _ _ _ _ _ _ x;clear x);refine wp_region_held_drew (S:=(λg=>g.cell? (U d.heap.size 0 A)=N (I E a)/\g.cell? (U d.heap.size 1 A)=N (ι b)/\g.cell? (U d.heap.size 2 A)=N (ι c)/\fP d a b c g)) (by kernel_rfl) ?_ (λr=> ?_)
  .exact uG (by assumption)
  refine wpAnyH_take (i:=0) (v:= ?_) rfl (by kernel_rfl) (by kernel_rfl) (by kernel_rfl) (λ_ _ _ f=>f) (Or.inl ⟨by rfl,?_⟩) (by assumption) ?_;rotate_left
  ·(intro d i;(try dsimp only at i);go_simp;try with_reducible rfl)
  try simp only[oV,oW,oY,oX]
  refine wpAnyH_take (i:=6) (v:= ?_) rfl (by kernel_rfl) (by kernel_rfl) (by kernel_rfl) (λ_ _ _ f=>f) (Or.inl ⟨by rfl,?_⟩) (by assumption) ?_;rotate_left
  ·(intro d i;(try dsimp only at i);go_simp;try with_reducible rfl)
  try simp only[oV,oW,oY,oX]
  refine wpAnyH_take (i:=7) (v:= ?_) rfl (by kernel_rfl) (by kernel_rfl) (by kernel_rfl) (λ_ _ _ f=>f) (Or.inl ⟨by rfl,?_⟩) (by assumption) ?_;rotate_left
  ·(intro d i;(try dsimp only at i);go_simp;try with_reducible rfl)
  try simp only[oV,oW,oY,oX]
  refine wpAnyH_ready (rs:=[1]) (by kernel_rfl) (by simp) ?_;refine JC rfl (λl h=> ?_) ?_
  .first|(go_at_call 58;refine(Dq a b c true m _).mono ?_;rintro e w ⟨rfl,k⟩;have t:=gp d a b c k (by assumption);clear k)|(go_simp;(go_at_call 58;refine(Dq a b c true m _).mono ?_;rintro e w ⟨rfl,k⟩;have t:=gp d a b c k (by assumption);clear k))|(go_at_call 322;refine(xj a b c true m _).mono ?_;rintro e w ⟨rfl,k⟩;have t:=gp d a b c k (by assumption);clear k)|(go_simp;(go_at_call 322;refine(xj a b c true m _).mono ?_;rintro e w ⟨rfl,k⟩;have t:=gp d a b c k (by assumption);clear k))
   try go_wp2_with fail
   refine h.out _ _ (oK t) (λr=> ?_);clear h l;try simp only[oV,oW,oY,oX]
   refine wpAnyH_take (i:=2) (v:= ?_) rfl (by kernel_rfl) (by kernel_rfl) (by kernel_rfl) (λ_ _ _ f=>f) (Or.inl ⟨by rfl,?_⟩) (by assumption) ?_;rotate_left
   ·(intro d i;(try dsimp only at i);go_simp;try with_reducible rfl)
   try simp only[oV,oW,oY,oX]
   refine wpAnyH_take (i:=3) (v:=undef) rfl (by kernel_rfl) (by kernel_rfl) (by kernel_rfl) (λ_ _ _ f=>f) (Or.inr ⟨by rfl,rfl⟩) (by assumption) ?_;try simp only[oV,oW,oY,oX]
   refine wpAnyH_take (i:=4) (v:=undef) rfl (by kernel_rfl) (by kernel_rfl) (by kernel_rfl) (λ_ _ _ f=>f) (Or.inr ⟨by rfl,rfl⟩) (by assumption) ?_;try simp only[oV,oW,oY,oX]
   refine wpAnyH_take (i:=5) (v:= ?_) rfl (by kernel_rfl) (by kernel_rfl) (by kernel_rfl) (λ_ _ _ f=>f) (Or.inl ⟨by rfl,?_⟩) (by assumption) ?_;rotate_left
   ·(intro d i;(try dsimp only at i);go_simp;try with_reducible rfl)
   try simp only[oV,oW,oY,oX]
   refine wpAnyH_ready (rs:=[8]) (by kernel_rfl) (by simp) ?_;refine JC rfl (λl h=> ?_) ?_
   .first|(go_at_call 386;refine(zK a b c false p q _).mono ?_;rintro e u ⟨rfl,j⟩;have s:=gp d a b c j (by assumption);clear j)|(go_simp;(go_at_call 386;refine(zK a b c false p q _).mono ?_;rintro e u ⟨rfl,j⟩;have s:=gp d a b c j (by assumption);clear j))|(go_at_call 385;refine(zM a b c false p q _).mono ?_;rintro e u ⟨rfl,j⟩;have s:=gp d a b c j (by assumption);clear j)|(go_simp;(go_at_call 385;refine(zM a b c false p q _).mono ?_;rintro e u ⟨rfl,j⟩;have s:=gp d a b c j (by assumption);clear j))
    try go_wp2_with fail
    refine h.out _ _ (oK s) (λr=> ?_);clear h l;try simp only[oV,oW,oY,oX]
    refine wpAnyH_ready (rs:=[9]) (by kernel_rfl) (by simp) ?_;refine JC rfl (λl h=> ?_) ?_
    .first|(go_at_call 384;refine(qk true a b c _ _ _ _).mono ?_;rintro e T ⟨rfl,o⟩;have n:=gp d a b c o (by assumption);clear o;obtain⟨G,H,J,K,L,y,z,B,C,F,M,O,P,Q,R⟩:=oL n)|(go_simp;(go_at_call 384;refine(qk true a b c _ _ _ _).mono ?_;rintro e T ⟨rfl,o⟩;have n:=gp d a b c o (by assumption);clear o;obtain⟨G,H,J,K,L,y,z,B,C,F,M,O,P,Q,R⟩:=oL n))
     try go_wp2_with fail
     refine h.out _ _ (oK n) (λr=> ?_);clear h l;try simp only[oV,oW,oY,oX]
     refine wpAnyH_ready (rs:=[10]) (by kernel_rfl) (by simp) ?_;refine JC rfl (λl h=> ?_) ?_
     .go_simp
      refine h.out _ _ (oK (bS (bS (bS (bS (bS n 0 _) 1 _) 2 _) 3 _) 4 _)) (λr=> ?_);clear h l;try simp only[oV,oW,oY,oX]
      refine wpAnyH_take (i:=11) (oi:= {dst:=N 5,op:= .assign (.const (I E 0)),type:=_,pos:=_,after:=_,guard:=A}) (v:= ?_) rfl (by kernel_rfl) (by kernel_rfl) (by kernel_rfl) (λ_ _ _ f=>f) (Or.inl ⟨by rfl,?_⟩) (by assumption) ?_;rotate_left
      ·(intro d i;(try dsimp only at i);go_simp;try with_reducible rfl)
      try simp only[oV,oW,oY,oX]
      refine wpAnyH_done (by kernel_rfl) ?_ _;go_wp2;refine Ω (v:=_) ?r rfl ⟨rfl,?_⟩;case r=>simp[ag,EC,Ax,go_sem,y,z,B,C,F]
      exact(bS (bS (bS (bS (bS n 0 _) 1 _) 2 _) 3 _) 4 _).2.2
     exact JD
    exact JD
   exact JD
  exact JD
theorem Xh(a:Int)(c b:Bool)(f:η (dL a c b=true))(g:0<=a)(h:a<=3)(i:η (gu a=true))(d:Z):
 ν δ 356 #[S a c b,I E 3] d λe j=>e=ξ (σ #[St (eM true (jU a false) a) (bW true false c) (bW true b b) true false,I E 0])/\bH d.heap.size d j:=(Ci a c b f g h d).1 i
theorem Xj(a:Int)(b c:Bool)(f:η (dL a b c=true))(g:0<=a)(h:a<=3)(i:η (fL a=true))(d:Z):
 ν δ 356 #[S a b c,I E 4] d λe j=>e=ξ (σ #[St (eM true (jX a false) a) (bW true b b) (bW true false c) true false,I E 0])/\bH d.heap.size d j:=(Ci a b c f g h d).2.1 i
theorem Zm(a:Int)(b c:Bool)(f:η (dL a b c=true))(g:0<=a)(h:a<=3)(i:η (fL a=true))(d:Z):
 ν δ 357 #[S a b c,I E 3] d λe j=>e=ξ (σ #[St (eM true (jX a false) a) (bW true b b) (bW true false c) true false,I E 0])/\bH d.heap.size d j:=(Ci a b c f g h d).2.2.1 i
theorem Zo(a:Int)(c b:Bool)(f:η (dL a c b=true))(g:0<=a)(h:a<=3)(i:η (gu a=true))(d:Z):
 ν δ 357 #[S a c b,I E 4] d λe j=>e=ξ (σ #[St (eM true (jU a false) a) (bW true false c) (bW true b b) true false,I E 0])/\bH d.heap.size d j:=(Ci a c b f g h d).2.2.2 i
def mY(i:FuncId)(n:Int)(a b:Bool)(e j:Int)(d f k g:Bool)(h:Int):Prop:=
 ∀c:Z,ν δ i #[S n a b,I E e] c λm l=>m=ξ (σ #[St j d f k g,I E h])/\bH c.heap.size c l
abbrev qh(n:Int)(a b:Bool):Array ε:=#[I E n,ι a,ι b]
def rK(w0:Z)(n:Int)(a b:Bool)(m:Int)(c d:Bool)(e:Z):Prop:=
 θ e w0.heap.size 148 (qh n a b)/\θ e (w0.heap.size+1) 148 (qh m c d)/\(∃f g h,θ e (w0.heap.size+1+1) 148 #[f,g,h])/\(∃f g h,θ e (w0.heap.size+1+1+1) 148 #[f,g,h])/\bH w0.heap.size w0 e
section
variable {w0 W w2:Z} {n:Int} {a b:Bool} {m:Int} {c d:Bool}
theorem Iw(w0:Z)(n:Int)(a b:Bool)(m:Int)(c d:Bool)(e f g h i j:ε):rK w0 n a b m c d ((((w0.alloc (ζ (qh n a b) 148)).alloc (ζ (qh m c d) 148)).alloc (ζ #[e,f,g] 148)).alloc (ζ #[h,i,j] 148)):=by have k:=θ.new (w0.alloc (ζ (qh n a b) 148)) 148 (qh m c d);have l:=θ.new ((w0.alloc (ζ (qh n a b) 148)).alloc (ζ (qh m c d) 148)) 148 #[e,f,g];have o:=θ.new (((w0.alloc (ζ (qh n a b) 148)).alloc (ζ (qh m c d) 148)).alloc (ζ #[e,f,g] 148)) 148 #[h,i,j];simp only[World.size_alloc] at k l o;exact⟨(((θ.new _ _ _).alloc _).alloc _).alloc _,(k.alloc _).alloc _,⟨_,_,_,l.alloc _⟩,⟨_,_,_,o⟩,((((iz _ _).alloc (Ο _) _).alloc (by simp) _).alloc (by simp;omega) _).alloc (by simp;omega) _⟩
theorem rh(e:bH W.heap.size W w2)(k:rK w0 n a b m c d W):rK w0 n a b m c d w2:=by obtain⟨f,g,⟨_,_,_,h⟩,⟨_,_,_,i⟩,j⟩:=k;exact⟨f.below e f.lt,g.below e g.lt,⟨_,_,_,h.below e h.lt⟩,⟨_,_,_,i.below e i.lt⟩,j.trans (e.mono j.size)⟩
theorem sR(g:rK w0 n a b m c d W)(e:Obj):rK w0 n a b m c d (W.alloc e):=by obtain⟨h,i,⟨_,_,_,j⟩,⟨_,_,_,k⟩,f⟩:=g;exact⟨h.alloc e,i.alloc e,⟨_,_,_,j.alloc e⟩,⟨_,_,_,k.alloc e⟩,f.alloc f.size e⟩
theorem sS(e:rK w0 n a b m c d W):w0.heap.size+1+1+1<W.heap.size:=by obtain⟨g,h,⟨_,_,_,i⟩,⟨_,_,_,f⟩,j⟩:=e;exact f.lt
theorem xg(e:rK w0 n a b m c d W):W.cell? (U w0.heap.size 0 A)=N (I E n)/\W.cell? (U w0.heap.size 1 A)=N (ι a)/\W.cell? (U w0.heap.size 2 A)=N (ι b)/\W.cell? ⟨w0.heap.size+1,0,A⟩=N (I E m)/\W.cell? ⟨w0.heap.size+1,1,A⟩=N (ι c)/\W.cell? ⟨w0.heap.size+1,2,A⟩=N (ι d):=
 ⟨e.1.cell 0,e.1.cell 1,e.1.cell 2,e.2.1.cell 0,e.2.1.cell 1,e.2.1.cell 2⟩
theorem Ix(o:rK w0 n a b m c d W):∃g h i j k l:ε,W.cell? ⟨w0.heap.size+1+1,0,A⟩=N g/\W.cell? ⟨w0.heap.size+1+1,1,A⟩=N h/\W.cell? ⟨w0.heap.size+1+1,2,A⟩=N i/\W.cell? ⟨w0.heap.size+1+1+1,0,A⟩=N j/\W.cell? ⟨w0.heap.size+1+1+1,1,A⟩=N k/\W.cell? ⟨w0.heap.size+1+1+1,2,A⟩=N l/\W.frozen? ⟨w0.heap.size+1+1,0,A⟩=false/\W.frozen? ⟨w0.heap.size+1+1,1,A⟩=false/\W.frozen? ⟨w0.heap.size+1+1,2,A⟩=false/\W.frozen? ⟨w0.heap.size+1+1+1,0,A⟩=false/\W.frozen? ⟨w0.heap.size+1+1+1,1,A⟩=false/\W.frozen? ⟨w0.heap.size+1+1+1,2,A⟩=false:=by obtain⟨_,_,⟨g,h,i,e⟩,⟨j,k,l,f⟩,_⟩:=o;exact⟨g,h,i,j,k,l,e.cell 0,e.cell 1,e.cell 2,f.cell 0,f.cell 1,f.cell 2,e.frozen 0,e.frozen 1,e.frozen 2,f.frozen 0,f.frozen 1,f.frozen 2⟩
end
theorem vN{w0 W:Z}(f:bH w0.heap.size w0 W){a:Nat}(b:w0.heap.size<=a)(c d e:ε):
 bH w0.heap.size w0 (((W.setCell (U a 0 A) c).setCell (U a 1 A) d).setCell (U a 2 A) e):=((f.setCell b c).setCell b d).setCell b e
theorem V0(n:Int)(a b:Bool)(m:Int)(c d:Bool)(q k:Int)(i j:Bool)(t:η (mY 356 n a b q k i j false false 0))(u:η (dL m c d=true))(e:Z):ν δ 358 #[S n a b,S m c d,I E q] e λl A=>l=ξ (σ #[S k i j,S m c d,I E 0])/\bH e.heap.size e A:=by
 have s:=Iw e n a b m c d (I E 0) (ι false) (ι false) (I E 0) (ι false) (ι false);go_enter func358,ntmps358;go_wp2_with fail;refine(t _).mono ?_;rintro l h ⟨rfl,r⟩;have p:=rh r s;clear r s;have aq:=sS p;obtain⟨ad,ae,af,ah,ai,aj⟩:=xg (sR p (ζ #[I E k,ι i,ι j,ι false,ι false] 405));go_wp2_with fail;refine(mL m c d u _).mono ?_;rintro l w2 ⟨rfl,o⟩;have g:=rh o (sR p _);have f:=(θ.new _ _ _).below o (by simp);clear o;have w:=f.cell 0;have x:=f.cell 1;have y:=f.cell 2;have z:=f.cell 3;simp only[gz_] at w x y z;have ar:=sS g;have Y:¬h.heap.size=e.heap.size+1+1:=by omega
 have ab:¬h.heap.size=e.heap.size+1+1+1:=by omega
 have aa:¬e.heap.size+1+1=h.heap.size:=by omega
 have ac:¬e.heap.size+1+1+1=h.heap.size:=by omega
 obtain⟨ak,al,am,an,ao,ap⟩:=xg g;obtain⟨K,L,M,N,O,P,B,C,F,G,H,J,Q,R,T,V,W,X⟩:=Ix g;go_wp2;go_region
 go_wp2;refine Ω (v:=σ #[S k i j,S m c d,I E 0]) (by simp[ag,results358,go_sem,B,C,F,G,H,J]) rfl ⟨rfl,?_⟩;exact(vN (vN g.2.2.2.2 (by omega) _ _ _) (by omega) _ _ _).drew
theorem VZ(n:Int)(a b:Bool)(m:Int)(c d:Bool)(u t:Int)(r s:Bool)(k:Int)(i j y:Bool)(F:η (mY 356 n a b u t r s true false 0))(H:η (dL m c d=true))(G:η (mY 357 m c d u k i j y false 0))(e:Z):ν δ 358 #[S n a b,S m c d,I E u] e λl O=>l=ξ (σ #[S t r s,S k i j,I E 0])/\bH e.heap.size e O:=by
 have A:=Iw e n a b m c d (I E 0) (ι false) (ι false) (I E 0) (ι false) (ι false);go_enter func358,ntmps358;go_wp2_with fail;refine(F _).mono ?_;rintro l f ⟨rfl,z⟩;have w:=rh z A;clear z A;have aR:=sS w;obtain⟨aF,aG,aH,aI,aJ,aK⟩:=xg (sR w (ζ #[I E t,ι r,ι s,ι true,ι false] 405));go_wp2_with fail;refine(mL m c d H _).mono ?_;rintro l w2 ⟨rfl,o⟩;have x:=rh o (sR w _);have h:=(θ.new _ _ _).below o (by simp);have z12:f.heap.size<w2.heap.size:=by have:=o.size;simp at this;omega
 clear o;have K:=h.cell 0;have L:=h.cell 1;have M:=h.cell 2;have N:=h.cell 3;simp only[gz_] at K L M N;have aT:=sS x;have ax:¬f.heap.size=e.heap.size:=by omega
 have ay:¬e.heap.size=f.heap.size:=by omega
 have az:¬f.heap.size=e.heap.size+1:=by omega
 have aA:¬e.heap.size+1=f.heap.size:=by omega
 have aB:¬f.heap.size=e.heap.size+1+1:=by omega
 have aC:¬e.heap.size+1+1=f.heap.size:=by omega
 have aD:¬f.heap.size=e.heap.size+1+1+1:=by omega
 have aE:¬e.heap.size+1+1+1=f.heap.size:=by omega
 obtain⟨aL,aM,aN,aO,aP,aQ⟩:=xg x;go_wp2_with fail;refine(G _).mono ?_;rintro l g ⟨rfl,p⟩;have B:=rh p x;have J:=h.below p z12;have z23:=p.size;clear p;have aU:=sS B;have aS:f.heap.size<g.heap.size:=by omega
 have al:¬g.heap.size=e.heap.size:=by omega
 have am:¬e.heap.size=g.heap.size:=by omega
 have an:¬g.heap.size=e.heap.size+1:=by omega
 have ao:¬e.heap.size+1=g.heap.size:=by omega
 have ap:¬g.heap.size=e.heap.size+1+1:=by omega
 have aq:¬e.heap.size+1+1=g.heap.size:=by omega
 have ar:¬g.heap.size=e.heap.size+1+1+1:=by omega
 have au:¬e.heap.size+1+1+1=g.heap.size:=by omega
 have av:¬g.heap.size=f.heap.size:=by omega
 have aw:¬f.heap.size=g.heap.size:=by omega
 have C:=sR B (ζ #[I E k,ι i,ι j,ι y,ι false] 405);have q:=J.alloc (ζ #[I E k,ι i,ι j,ι y,ι false] 405);have p40:=q.cell 0;have p41:=q.cell 1;have p42:=q.cell 2;have p43:=q.cell 3;simp only[gz_] at p40 p41 p42 p43;obtain⟨X,Y,aa,ab,ac,ad,P,Q,R,T,V,W,ae,af,ah,ai,aj,ak⟩:=Ix C;go_wp2;go_region
 go_wp2;refine Ω (v:=σ #[S t r s,S k i j,I E 0]) (by simp[ag,results358,go_sem,P,Q,R,T,V,W]) rfl ⟨rfl,?_⟩;exact(vN (vN C.2.2.2.2 (by omega) _ _ _) (by omega) _ _ _).drew
theorem VX(n:Int)(a b:Bool)(m:Int)(c d:Bool)(w G:Int)(C F:Bool)(p:Int)(l o H:Bool)(z:Int)(x y aa Y:Bool)(J:η (mY 356 n a b w G C F true false 0))(N:η (dL m c d=true))(L:η (mY 357 m c d w p l o H true 0))(K:η (mY 357 G C F 2 z x y aa Y 0))(e:Z):ν δ 358 #[S n a b,S m c d,I E w] e λk ar=>k=ξ (σ #[S z x y,S p l o,I E 0])/\bH e.heap.size e ar:=by
 have V:=Iw e n a b m c d (I E 0) (ι false) (ι false) (I E 0) (ι false) (ι false);go_enter func358,ntmps358;go_wp2_with fail;refine(J _).mono ?_;rintro k f ⟨rfl,M⟩;have t:=rh M V;clear M V;have a5:=sS t;obtain⟨ae,af,ah,ai,aj,ak⟩:=xg (sR t (ζ #[I E G,ι C,ι F,ι true,ι false] 405));go_wp2_with fail;refine(mL m c d N _).mono ?_;rintro k w2 ⟨rfl,q⟩;have u:=rh q (sR t _);have j:=(θ.new _ _ _).below q (by simp);have z12:f.heap.size<w2.heap.size:=by have:=q.size;simp at this;omega
 clear q;have P:=j.cell 0;have Q:=j.cell 1;have R:=j.cell 2;have T:=j.cell 3;simp only[gz_] at P Q R T;have a7:=sS u;have aW:¬f.heap.size=e.heap.size:=by omega
 have aX:¬e.heap.size=f.heap.size:=by omega
 have aY:¬f.heap.size=e.heap.size+1:=by omega
 have aZ:¬e.heap.size+1=f.heap.size:=by omega
 have a0:¬f.heap.size=e.heap.size+1+1:=by omega
 have a1:¬e.heap.size+1+1=f.heap.size:=by omega
 have a2:¬f.heap.size=e.heap.size+1+1+1:=by omega
 have a3:¬e.heap.size+1+1+1=f.heap.size:=by omega
 obtain⟨al,am,an,ao,ap,aq⟩:=xg u;go_wp2_with fail;refine(L _).mono ?_;rintro k g ⟨rfl,r⟩;have A:=rh r u;have O:=j.below r z12;have z23:=r.size;clear r;have a8:=sS A;have a6:f.heap.size<g.heap.size:=by omega
 have aM:¬g.heap.size=e.heap.size:=by omega
 have aN:¬e.heap.size=g.heap.size:=by omega
 have aO:¬g.heap.size=e.heap.size+1:=by omega
 have aP:¬e.heap.size+1=g.heap.size:=by omega
 have aQ:¬g.heap.size=e.heap.size+1+1:=by omega
 have aR:¬e.heap.size+1+1=g.heap.size:=by omega
 have aS:¬g.heap.size=e.heap.size+1+1+1:=by omega
 have aT:¬e.heap.size+1+1+1=g.heap.size:=by omega
 have aU:¬g.heap.size=f.heap.size:=by omega
 have aV:¬f.heap.size=g.heap.size:=by omega
 have W:=sR A (ζ #[I E p,ι l,ι o,ι H,ι true] 405);have i:=O.alloc (ζ #[I E p,ι l,ι o,ι H,ι true] 405);have p40:=i.cell 0;have p41:=i.cell 1;have p42:=i.cell 2;have p43:=i.cell 3;simp only[gz_] at p40 p41 p42 p43;go_wp2_with fail;refine(K _).mono ?_;rintro k a4 ⟨rfl,s⟩;have X:=rh s W;have B:=(θ.new _ _ _).below s (by simp);have h:=i.below s i.lt;clear s;have ab:=B.cell 0;have ac:=B.cell 1;have ad:=B.cell 2;have t50:=h.cell 0;have t51:=h.cell 1;have t52:=h.cell 2;have t53:=h.cell 3;have t54:=h.cell 4;have t55:=h.frozen 0;have t56:=h.frozen 1;have t57:=h.frozen 2;have t58:=h.frozen 3;have t59:=h.frozen 4;simp only[gz_] at ab ac ad t50 t51 t52 t53 t54;obtain⟨aA,aB,aC,aD,aE,aF,au,av,aw,ax,ay,az,aG,aH,aI,aJ,aK,aL⟩:=Ix X;clear t u A W j O i P Q R T ae af ah ai aj ak al am an ao ap aq p40 p41 p42 p43 N J L K;go_wp2;go_region
 go_wp2;refine Ω (v:=σ #[S z x y,S p l o,I E 0]) (by simp[ag,results358,go_sem,au,av,aw,ax,ay,az]) rfl ⟨rfl,?_⟩;exact(vN (vN (((((X.2.2.2.2.setCell (by simp;omega) _).setCell (by simp;omega) _).setCell (by simp;omega) _).setCell (by simp;omega) _).setCell (by simp;omega) _) (by omega) _ _ _) (by omega) _ _ _).drew
def lA(c:Int)(d b:Bool)(a:Int):Bool:=if a=1 then true else if a=2 then b else if a=3 then gu c||d else fL c||b
def pK(a:Int)(d c:Bool)(b:Int):Int:=if b=1 then a else if b=2 then eM c (jX a true) a else if b=3 then eM (gu a||d) (jU a false) a else eM (fL a||c) (jX a false) a
def pH(c:Int)(a _b:Bool)(b:Int):Bool:=if b=1 then !gu c else if b=2 then a else if b=3 then bW (gu c||a) false a else a
def pI(c:Int)(_a a:Bool)(b:Int):Bool:=if b=1 then a else if b=2 then bW a false a else if b=3 then a else bW (fL c||a) false a
def sI(b:Int)(c d:Bool)(a:Int):Bool:=if a=1 then !fL b&& !d else if a=2 then c else if a=3 then fL b||d else gu b||c
def sH(a:Int)(c d:Bool)(b:Int):Int:=if b=1 then a else if b=2 then eM c (jU a true) a else if b=3 then eM (fL a||d) (jX a false) a else eM (gu a||c) (jU a false) a
def sE(c:Int)(a _b:Bool)(b:Int):Bool:=if b=1 then a else if b=2 then bW a false a else if b=3 then a else bW (gu c||a) false a
def pQ(c:Int)(_a a:Bool)(b:Int):Bool:=if b=1 then a|| !fL c else if b=2 then a else if b=3 then bW (fL c||a) false a else a
def sF(b a:Int):Bool:=a==1&&fL b
theorem nP(b a:Bool):bW b a a=a:=by cases b<;>rfl
theorem PQ(b:Bool)(a:Int):eM b a a=a:=by cases b<;>rfl
theorem Dl{b:Bool}(a:dL m f b=true):0<=m/\m<=3:=by simp[dL] at a;exact⟨a.1.1.1,a.1.1.2⟩
theorem mB{i:FuncId}{c:Bool}{j k:Int}{a b d e t1 t2 g h:Bool}{l:Int}(n:mY i m f c C j a d t1 g l)(r:j=k)(o:a=b)(p:d=e)(s:t1=t2)(q:g=h):mY i m f c C k b e t2 h l:=by subst r o p s q;exact n
theorem MJ(b:Int)(c d:Bool)(e:Int)(g:dL b c d=true)(k:1<=e)(l:e<=4):mY 356 b c d e (pK b c d e) (pH b c d e) (pI b c d e) (lA b c d e) false 0:=by
 obtain⟨h,i⟩:=Dl g;have j:e=1\/e=2\/e=3\/e=4:=by omega
 obtain rfl|rfl|rfl|rfl:=j
 .exact mB (λf=>Xe b c d g f) (PQ _ _) rfl (nP _ _) rfl rfl
 .exact mB (λf=>Xf b c d g h i f) rfl (nP _ _) rfl rfl rfl
 .cases a:gu b
  .exact mB (λf=>Xg b c d g h i a f) (by simp[pK,a]) (by simp[pH,a]) (by simp[pI,nP]) (by simp[lA,a]) rfl
  exact mB (λf=>Xh b c d g h i a f) (by simp[pK,a]) (by simp[pH,a]) (by simp[pI,nP]) (by simp[lA,a]) rfl
 cases a:fL b
 .exact mB (λf=>Xi b c d g h i a f) (by simp[pK,a]) (by simp[pH,nP]) (by simp[pI,a]) (by simp[lA,a]) rfl
 exact mB (λf=>Xj b c d g h i a f) (by simp[pK,a]) (by simp[pH,nP]) (by simp[pI,a]) (by simp[lA,a]) rfl
theorem Hb(b:Int)(d c:Bool)(f:Int)(g:dL b d c=true)(k:1<=f)(l:f<=4):mY 357 b d c f (sH b d c f) (sE b d c f) (pQ b d c f) (sI b d c f) (sF b f) 0:=by
 obtain⟨h,i⟩:=Dl g;have j:f=1\/f=2\/f=3\/f=4:=by omega
 obtain rfl|rfl|rfl|rfl:=j
 .cases a:fL b
  .exact mB (λe=>Zi b d c g a e) (PQ _ _) (nP _ _) (by simp[pQ,a];cases c<;>rfl) (by simp[sI,a]) (by simp[sF,a])
  exact mB (λe=>Zj b d c g a e) rfl rfl (by simp[pQ,a]) (by simp[sI,a]) (by simp[sF,a])
 .exact mB (λe=>Zk b d c g h i e) rfl rfl (nP _ _) rfl rfl
 .cases a:fL b
  .exact mB (λe=>Zl b d c g h i a e) (by simp[sH,a]) (by simp[sE,nP]) (by simp[pQ,a]) (by simp[sI,a]) rfl
  exact mB (λe=>Zm b d c g h i a e) (by simp[sH,a]) (by simp[sE,nP]) (by simp[pQ,a]) (by simp[sI,a]) rfl
 cases a:gu b
 .exact mB (λe=>Zn b d c g h i a e) (by simp[sH,a]) (by simp[sE,a]) (by simp[pQ,nP]) (by simp[sI,a]) rfl
 exact mB (λe=>Zo b d c g h i a e) (by simp[sH,a]) (by simp[sE,a]) (by simp[pQ,nP]) (by simp[sI,a]) rfl
def small(a:Int->Prop):Prop:=a 0/\a 1/\a 2/\a 3
theorem Ln(a:1<=m)(b:m<=4):m=1\/m=2\/m=3\/m=4:=by omega
theorem Iy(d:Int)(a c:Bool)(b:Int)(e:dL d a c=true)(f:1<=b)(g:b<=4):dL (pK d a c b) (pH d a c b) (pI d a c b)=true:=by obtain⟨h,i⟩:=Dl e;rcases zR h i with rfl|rfl|rfl|rfl<;>cases a<;>cases c<;>first|(exfalso;revert e;decide)|(rcases Ln f g with rfl|rfl|rfl|rfl<;>decide)
theorem P'(d:Int)(a c:Bool)(b:Int)(e:dL d a c=true)(f:1<=b)(g:b<=4):dL (sH d a c b) (sE d a c b) (pQ d a c b)=true:=by obtain⟨h,i⟩:=Dl e;rcases zR h i with rfl|rfl|rfl|rfl<;>cases a<;>cases c<;>first|(exfalso;revert e;decide)|(rcases Ln f g with rfl|rfl|rfl|rfl<;>decide)
def vR(d:Int)(b c:Bool)(e a:Int):Int:=if lA d b c a&&sF e a then sH (pK d b c a) (pH d b c a) (pI d b c a) 2 else pK d b c a
def vP(d:Int)(b c:Bool)(e a:Int):Bool:=if lA d b c a&&sF e a then sE (pK d b c a) (pH d b c a) (pI d b c a) 2 else pH d b c a
def vQ(d:Int)(b c:Bool)(e a:Int):Bool:=if lA d b c a&&sF e a then pQ (pK d b c a) (pH d b c a) (pI d b c a) 2 else pI d b c a
def vV(g:Int)(c d:Bool)(b:Int)(e f:Bool)(a:Int):Int:=if lA g c d a then sH b e f a else b
def vS(g:Int)(c d:Bool)(f:Int)(b e:Bool)(a:Int):Bool:=if lA g c d a then sE f b e a else b
def vT(g:Int)(c d:Bool)(f:Int)(e b:Bool)(a:Int):Bool:=if lA g c d a then pQ f e b a else b
theorem VY(d:Int)(b c:Bool)(e:Int)(f g:Bool)(a:Int)(q:dL d b c=true)(m:dL e f g=true)(o:1<=a)(p:a<=4)(i:Z):ν δ 358 #[S d b c,S e f g,I E a] i λh s=>h=ξ (σ #[S (vR d b c e a) (vP d b c e a) (vQ d b c e a),S (vV d b c e f g a) (vS d b c e f g a) (vT d b c e f g a),I E 0])/\bH i.heap.size i s:=by
 have j:=MJ d b c a q o p;have l:=Hb e f g a m o p;cases k:lA d b c a
 .rw[k] at j;have h:=V0 d b c e f g a _ _ _ j m i;simpa[vR,vP,vQ,vV,vS,vT,k] using h
 rw[k] at j;cases n:sF e a
 .rw[n] at l;have h:=VZ d b c e f g a _ _ _ _ _ _ _ j m l i;simpa[vR,vP,vQ,vV,vS,vT,k,n] using h
 rw[n] at l;have r:=Hb _ _ _ 2 (Iy d b c a q o p) (by omega) (by omega);have h:=VX d b c e f g a _ _ _ _ _ _ _ _ _ _ _ _ j m l r i;simpa[vR,vP,vQ,vV,vS,vT,k,n] using h
theorem P3(a:Z):(callFunc 418 #[]).run δ a= .ok (.value (σ #[])) a:=run_call_mark0 func418 (by kernel_rfl) (by kernel_rfl) (by kernel_rfl) .disable (by kernel_rfl) a
theorem P5(a:Z):(callFunc 420 #[]).run δ a= .ok (.value (σ #[])) a:=run_call_mark0 func420 (by kernel_rfl) (by kernel_rfl) (by kernel_rfl) .enable (by kernel_rfl) a
theorem acS(b:ay)(a:Z):(callFunc 421 #[π (N b)]).run δ a= .ok (.value (σ #[])) a:=run_call_marked func421 (by kernel_rfl) (by kernel_rfl) (by kernel_rfl) .acquire (by kernel_rfl) b a
theorem acT(b:ay)(a:Z):(callFunc 423 #[π (N b)]).run δ a= .ok (.value (σ #[])) a:=run_call_marked func423 (by kernel_rfl) (by kernel_rfl) (by kernel_rfl) .releaseMerge (by kernel_rfl) b a
theorem aeb(a:ay)(d:ε)(c:FrameMode)(b:Z)(j:b.cell? a=N d)(l:b.frozen? a=false):CallsD δ 407 #[π (N a),ι true] c b λe h i=>h=c/\(e=ξ (σ #[])/\i=b.drew.setCell a (I Λ 1)):=by
 have f:b.drew.cell? a=N d:=by go_simp
 have g:b.drew.frozen? a=false:=by go_simp
 have k:=run_call_store (P:=δ) func414 (by kernel_rfl) (by kernel_rfl) (by kernel_rfl) (by kernel_rfl) (k:=Λ) (y:=1) f g
 go_enter_d func407,ntmps407
 go_wp2
 go_region_calls
 all_goals(go_end0;exact⟨rfl,rfl⟩)
theorem Rl:prog.underlying 489=N (.pointer 433):=by kernel_rfl
theorem Rj:prog.underlying 386=N .unsafePointer:=by kernel_rfl
theorem ag6(a:ay)(d:FrameMode)(b:Z)(c:b.cell? a=N (I .i32 1))(f:b.frozen? a=false):CallsD δ 406 #[π (N a)] d b λe g h=>g=d/\(e=ξ (σ #[])/\h=b.setCell a (I .i32 0)):=by
 have k:=P3;have l:=P5;have m:=acT;have i:=run_call_add (P:=δ) func424 (by kernel_rfl) (by kernel_rfl) (by kernel_rfl) .i32 (by kernel_rfl) (y:= -1) (s:=0) c f (by simp[go_sem];rfl);have j:=run_convert_to_unsafe (P:=δ) (src:=489) (dst:=386) Rl Rj (by kernel_rfl) c
 go_enter_d func406,ntmps406
 go_wp2;go_end0
 go_wp2
theorem aaI(a:ay)(b:Z)(c:b.cell? a=N (I .i32 0))(f:b.frozen? a=false):ν δ 405 #[π (N a)] b λd g=>d=ξ (σ #[])/\g=b.setCell a (I .i32 1):=by
 have k:=P3;have l:=P5;have h:=acS;have i:=run_call_cas_hit (P:=δ) func419 (by kernel_rfl) (by kernel_rfl) (by kernel_rfl) .i32 (by kernel_rfl) (y:=1) c f;have e:(b.setCell a (I .i32 1)).cell? a=N (I .i32 1):=World.cell?_setCell_same b a _ c;have j:=run_convert_to_unsafe (P:=δ) (src:=489) (dst:=386) Rl Rj (by kernel_rfl) e;go_enter func405,ntmps405;go_wp2;first|go_end0|(simp only[Exit.inBlock,Exit.then];refine Ω (results_none rfl _ _ _) rfl ?_)|refine Ω (results_none rfl _ _ _) rfl ?_
 go_wp2
def vY(b:Z)(a:Nat):Z:=(b.drew.setCell (U a 0 A) (I Λ 1)).setCell (U a 1 A) (I .i32 0)
structure KY (b:Nat) (w:Z):Prop where
 h0:w.cell? (U b 0 A)=N (I Λ 0)
 h1:w.cell? (U b 1 A)=N (I .i32 1)
 f0:w.frozen? (U b 0 A)=false
 f1:w.frozen? (U b 1 A)=false
theorem abV(a:Nat)(g:ε)(f:Z->Prop)(b:Z)(k:b.cell? (U a 0 A)=N (I Λ 0))(l:b.cell? (U a 1 A)=N (I .i32 0))(j:b.frozen? (U a 1 A)=false)(m:ν δ 378 #[g] (b.setCell (U a 1 A) (I .i32 1)) λc d=>c=ξ (σ #[])/\KY a d/\f d):ν δ 395 #[π (N (U a 0 A)),.func (.func 378) #[g] #[]] b λc d=>c=ξ (σ #[])/\∃h,f h/\d=vY h a:=by
 have q:=run_call_load (P:=δ) func404 (by kernel_rfl) (by kernel_rfl) (by kernel_rfl) Λ (by kernel_rfl) (w:=b.setCell (U a 1 A) (I .i32 1)) (a:=(U a 0 A)) (x:=0) ((World.cell?_setCell_other _ ⟨a,1,A⟩ ⟨a,0,A⟩ _ (by simp)).trans k);have r:∀(i:Bool) (b:Z),(Op.unary .not (ι i)).run δ b= .ok (ι (!i)) b:=λ_ _=>rfl
 go_enter_defers func395,ntmps395
 go_wp2_with (first|(go_at_call 405;refine(aaI ⟨a,1,A⟩ _ l j).mono ?_;rintro c d ⟨rfl,rfl⟩)|(go_at_call 394;go_in)|(go_at_call 378;refine m.mono ?_;rintro c d ⟨rfl,e,n⟩));refine leaves_cons (f:=407) (args:=#[π (N (U a 0 A)),ι true]) (by simp) (by simp[go_sem]) ?_;refine(aeb ⟨a,0,A⟩ (I Λ 0) .returning _ e.h0 e.f0).mono ?_;rintro c o p ⟨rfl,rfl,rfl⟩;refine leaves_cons (f:=406) (args:=#[π (N (U a 1 A))]) (by simp[settle]) (by simp[go_sem]) ?_;refine(ag6 ⟨a,1,A⟩ _ _ ((World.cell?_setCell_other _ ⟨a,0,A⟩ ⟨a,1,A⟩ _ (by simp)).trans (by rw[World.cell?_drew];exact e.h1)) (by simp[e.f1])).mono ?_;rintro c o p ⟨rfl,rfl,rfl⟩;simp[Leaves,settle,ag,results395];exact⟨_,n,rfl⟩
theorem abU(b:Nat)(f:ε)(e:Z->Prop)(a:Z)(g:a.cell? (U b 0 A)=N (I Λ 0))(k:a.cell? (U b 1 A)=N (I .i32 0))(j:a.frozen? (U b 1 A)=false)(l:ν δ 378 #[f] (a.setCell (U b 1 A) (I .i32 1)) λd c=>d=ξ (σ #[])/\KY b c/\e c):ν δ 377 #[π (N (U b 0 A)),.func (.func 378) #[f] #[]] a λd c=>d=ξ (σ #[])/\∃h,e h/\c=vY h b:=by
 have o:=run_call_load (P:=δ) func404 (by kernel_rfl) (by kernel_rfl) (by kernel_rfl) Λ (by kernel_rfl) g;have p:∀(i:Bool) (a:Z),(Op.unary .not (ι i)).run δ a= .ok (ι (!i)) a:=λ_ _=>rfl;have n:=abV b f e a g k j l;go_enter func377,ntmps377;go_wp2_with (first|(go_at_call 395;refine n.mono ?_;rintro d c ⟨rfl,m⟩)|(go_at_call 394;go_in));go_end0
 exact⟨rfl,m⟩
end Go.Proofs.YtdgneofhcenhfaaGreatDoor
