/- A part of the proof of TopWrong. -/
import Derived.Test.YtdgneofhcenhfaaGreatDoorpb
import Derived.Shelf.SlIterI.Nil
import Derived.Shelf.SortM.Plain
import Derived.Shelf.SortM.SortNone
import Derived.Shelf.SlicesE.Clone
import Derived.Shelf.SlCmpFuncs.MinMaxFuncSP
set_option maxHeartbeats 16000000
set_option maxRecDepth 100000
set_option linter.all false
open Array renaming getElem?_eq_some_iff->Ah,getElem?_setIfInBounds_ne->tA
open ByteArray renaming mk->D
open Go renaming Calls->ν,Ending->aI,TypeId->aQ,Value->ε,World->Z,bodyPost_ret->Ω,maxLen->Χ,results->ag
open Go.Addr renaming add->jm,mk->U
open Go.Builtin renaming append_->gJ,clear_->JE
open Go.Ending renaming returned->ξ
open Go.Fence renaming wide->rC
open Go.IntKind renaming i64->E
open Go.Lib renaming hid->K
open Go.Maps renaming keyOf_i64->JK,size->xL
open Go.Obj renaming cells->ζ
open Go.Proofs renaming intOf->aB
open Go.Proofs.Tryz renaming prog->δ
open Go.RowKit.Below renaming heap_alloc->JW,refl->iz
open Go.Sem renaming run->nW
open Go.Value renaming bool->ι,func->af,int->I,map->ω,pointer->π,slice->V,string->H,tuple->σ
open Go.World renaming ownsRow_nil->db
open List renaming any_eq_true->tL,filter_append->EP,find?_eq_none->lM,getElem?_eq_getElem->cT,getElem?_take_of_lt->vu,getElem_mem->eA,length_filter_le->jo,length_map->dN,map_append->lP,map_cons->lm,map_map->tM,mem_cons->dD,mem_cons_of_mem->eZ,mem_cons_self->dP,mem_filter->dE,mem_map->eO,mem_of_find?_eq_some->rE,pairwise_cons->AK,pairwise_map->Fa,replicate->qz,size_toArray->oZ,take_length->pd,take_of_length_le->mo,take_succ_eq_append_getElem->lq
open Nat renaming le_refl->Ο,le_trans->aJ,lt_of_lt_of_le->dQ,mul_one->AV,zero_add->eP,zero_le->ai
open Option renaming map_some->gx,none->A,some->N
open Option.some renaming inj->cr
open Go Go.RowKit Go.Lib Go.Proofs.Tryz
namespace Go.Proofs.YtdgneofhcenhfaaGreatDoor
attribute [local go_sem ↓] Go.wp_at_zero Go.wp_at_succ
section
open Go.Maps Go.Sort Go.Shelf
def QY:Go.Shelf.Ren:=⟨fun|7=>119|10=>192|a=>a,fun|23=>119|26=>3|3=>155|28=>199|0=>0|27=>198|33=>51|4=>4|a=>a,fun|a=>a⟩
theorem QX:Go.Proofs.SlLaysZI.n7 δ QY:=by constructor<;>first|kernel_rfl|exact jg ⟨by decide+kernel,by kernel_rfl⟩|(intros;kernel_rfl)
def Q5:Go.Shelf.Ren:=⟨fun|6=>118|8=>190|9=>191|11=>270|13=>79|12=>271|23=>128|24=>129|14=>325|15=>326|16=>327|17=>328|18=>329|19=>330|20=>331|21=>332|22=>333|25=>368|26=>194|27=>195|28=>369|29=>370|30=>80|31=>391|a=>a,fun|26=>3|28=>199|24=>104|0=>0|3=>3|37=>39|48=>169|50=>32|4=>4|40=>203|39=>202|45=>174|5=>5|9=>9|51=>268|55=>272|57=>336|58=>337|33=>51|a=>a,fun|a=>a⟩
theorem afF:Go.Proofs.SlLaysZI.n6 δ Q5:=by constructor<;>first|kernel_rfl|exact jg ⟨by decide+kernel,by kernel_rfl⟩|(intros;kernel_rfl)
def afA:Go.Shelf.Ren:=⟨fun|5=>191|8=>79|7=>271|19=>128|20=>129|10=>325|11=>326|12=>327|13=>328|14=>329|15=>330|16=>331|17=>332|18=>333|30=>368|31=>194|32=>195|33=>369|34=>370|35=>80|40=>391|a=>a,fun|23=>104|25=>3|3=>3|32=>39|22=>104|0=>0|44=>169|46=>32|4=>4|36=>203|35=>202|41=>174|5=>5|9=>9|53=>268|57=>272|63=>336|64=>337|a=>a,fun|a=>a⟩
theorem Q2:Go.Proofs.SlLaysM.n5 δ afA:=by constructor<;>first|kernel_rfl|exact jg ⟨by decide+kernel,by kernel_rfl⟩|(intros;kernel_rfl)
variable{w:Z}{x:ε}{y k d:Nat}{m:Int}{j:Bs}{q:Array ε}{r:List (Nat×υ)}{u:aQ}
theorem aai   :ν δ 119 #[ω (N y)] w λa b=>a=ξ (af (.func 192) #[] #[π (N (U w.heap.size 0 A))])/\b=w.alloc (ζ #[ω (N y)] 119):=
 (callsIn_wide (n:=5)).1 (AnyZI.keys_in QX rC 5 trivial rfl (N y) w)
theorem adP(e:Nat):AnyZI.SortsIn δ Q5 rC e:=
 ⟨λblk f b h a c hblk d=>callsIn_wide.2 (AnyM.slices_Sort_int Q2 blk f b h a c hblk d),
  λg b a=>callsIn_wide.2 (AnyM.slices_Sort_int_none Q2 g b a)⟩
def Un(d:Z)(f:Int->Option ε)(e:aI)(c:Z):Prop:=∃(v:ε) (a:List Int),e=ξ v/\c.ownsRow d.heap.size 3 1 v a.length (a.map (I E))/\a.Pairwise (·<·)/\(∀b,b∈a↔(cM.ok b/\(f b).isSome=true))/\Y d c γ
theorem adN{u:Int->Option ε}(p:aC cM w y u k)(ac:k<=1000000):ν δ 118 #[af (.func 192) #[] #[π (N (U w.heap.size 0 A))]] (w.alloc (ζ #[ω (N y)] 119)) (Un w u):=by
 obtain⟨g,i,z,B⟩:=p;have M:=i.lt;have ae:=i.size_le
 have W:SeqGives rC 2 δ 192 #[π (N (U w.heap.size 0 A))] encZ (λd=>d.Perm (intKeys g)) (xL g) (w.alloc (ζ #[ω (N y)] 119)):=
  AnyZI.keys_gives (ρ:=QY) {QX with} rC _ trivial rfl (by omega) w.heap.size y k g _ (by simp) (by simp) (by obtain⟨l,clock,n,J,r,m⟩:=i;exact⟨l,clock,(JW _ _ y M).trans n,J,r,m⟩)
 have x:=AnyZI.sorted_in afF rC 5 trivial trivial trivial trivial rfl (by omega) (adP _) (enters_of func191 (by kernel_rfl) rfl) 192 #[π (N (U w.heap.size 0 A))] trivial (enters_of func192 (by kernel_rfl) rfl) _ _ (by simp[Χ];omega) (by omega) _ W;change CallsIn _ _ δ 118 _ _ _ at x;refine((callsIn_wide (n:=5)).1 x).mono ?_;rintro t ah ⟨v,d,rfl,F,V,ad,n⟩;have aa:=intKeys_wf i rz;obtain⟨l,m,S,_⟩:=i.entries fI.keyed;obtain⟨K,C,q⟩:=i.keysOf;obtain rfl:l=K:=by rw[m] at C;simpa using C
 have O:∀a,a∈d↔(cM.ok a/\(u a).isSome=true):=by
  intro a;rw[F.mem_iff];have H:a∈intKeys g->cM.ok a:=λe=>by have:=aa a e;simpa[Lit.wf,IntKind.min,IntKind.max,IntKind.signed,IntKind.bits,cM] using this
  have G:a∈intKeys g↔Maps.has g (Lit.int E a)=true:=by
   subst m;rw[has_eq,tL];show a∈l.map (λb:Lit×DataW ε=>Go.intOf b.1)↔_;rw[eO];constructor
   .rintro⟨b,c,rfl⟩;obtain⟨I,o⟩:=q b c;obtain⟨j,_,h,_⟩:=JK rz o;exact⟨b,c,by rw[h];simp[Lit.sameKey,Go.intOf]⟩
   rintro⟨b,c,r⟩;obtain⟨I,o⟩:=q b c;obtain⟨j,_,h,_⟩:=JK rz o;rw[h] at r;exact⟨b,c,by rw[h];simpa[Lit.sameKey,Go.intOf] using r⟩
  constructor
  .intro e;exact⟨H e,by rw[<-B a (H e)];exact G.1 e⟩
  rintro⟨ho,e⟩;exact G.2 ((B a ho).trans e)
 have P:d.Nodup:=F.nodup_iff.2 (by subst m;show(l.map λb:Lit×DataW ε=>Go.intOf b.1).Nodup;refine Fa.2 (S.imp_of_mem λ{b ab} R T Q t=>Q ?_);obtain⟨I,o⟩:=q b R;obtain⟨j,_,h,_⟩:=JK rz o;obtain⟨ag,X⟩:=q ab T;obtain⟨s,_,n,_⟩:=JK rz X;rw[h,n] at t⊢;exact congrArg _ t);have c:=List.mergeSort_perm d (λa f=>decide (a<=f));refine⟨v,d.mergeSort (λa f=>decide (a<=f)),rfl,?_,?_,λa=>by rw[c.mem_iff];exact O a,?_⟩
 .rw[c.length_eq];exact ownsRow_base_a V (by simp)
 .have L:(d.mergeSort (λa f=>decide (a<=f))).Pairwise (λj s=>decide (j<=s)=true):=List.pairwise_mergeSort (by simp;omega) (by simp;omega) d;have z:(d.mergeSort (λa f=>decide (a<=f))).Nodup:=c.nodup_iff.2 P;refine(L.and z).imp λ{j s} p=> ?_;have:=of_decide_eq_true p.1;have:=p.2;omega
 exact Y.of_below (((iz _ w).alloc (Ο _) _).trans (n.mono (by simp))) γ
def Q0:Go.Shelf.Ren:=⟨fun|7=>115|10=>189|a=>a,fun|23=>122|26=>9|3=>194|28=>192|0=>0|27=>191|33=>92|4=>4|a=>a,fun|a=>a⟩
theorem QZ:Go.Proofs.SlLaysZ.n7 δ Q0:=by constructor<;>first|kernel_rfl|exact jg ⟨by decide+kernel,by kernel_rfl⟩|(intros;kernel_rfl)
def Q6:Go.Shelf.Ren:=⟨fun|6=>114|8=>188|9=>52|11=>269|13=>79|12=>81|23=>128|24=>129|14=>130|15=>131|16=>132|17=>133|18=>134|19=>135|20=>136|21=>137|22=>138|25=>198|26=>194|27=>195|28=>199|29=>200|30=>201|31=>273|a=>a,fun|26=>9|28=>192|24=>26|0=>0|3=>3|37=>39|48=>169|50=>32|4=>4|40=>203|39=>202|45=>174|5=>5|9=>9|51=>268|55=>272|57=>336|58=>337|33=>92|a=>a,fun|a=>a⟩
theorem afG:Go.Proofs.SlLaysZ.n6 δ Q6:=by constructor<;>first|kernel_rfl|exact jg ⟨by decide+kernel,by kernel_rfl⟩|(intros;kernel_rfl)
def afE:Go.Shelf.Ren:=⟨fun|6=>52|8=>79|9=>81|19=>128|20=>129|21=>130|22=>131|23=>132|24=>133|25=>134|26=>135|27=>136|28=>137|29=>138|36=>198|31=>194|32=>195|37=>199|38=>200|39=>201|41=>273|a=>a,fun|27=>26|29=>9|3=>3|32=>39|26=>26|0=>0|44=>169|46=>32|4=>4|36=>203|35=>202|41=>174|5=>5|9=>9|53=>268|57=>272|63=>336|64=>337|a=>a,fun|a=>a⟩
theorem Q4:Go.Proofs.SlLaysM.n6 δ afE:=by constructor<;>first|kernel_rfl|exact jg ⟨by decide+kernel,by kernel_rfl⟩|(intros;kernel_rfl)
theorem aaj{w:Z}{mb:Nat}:ν δ 115 #[ω (N mb)] w λa b=>a=ξ (af (.func 189) #[] #[π (N (U w.heap.size 0 A))])/\b=w.alloc (ζ #[ω (N mb)] 122):=
 (callsIn_wide (n:=5)).1 (AnyZ.keys_in QZ rC 5 trivial rfl (N mb) w)
theorem adQ(e:Nat):AnyZ.SortsIn δ Q6 rC e:=
 ⟨λblk f b h a c hblk d=>callsIn_wide.2 (AnyM.slices_Sort_string Q4 blk f b h a c hblk d),
  λg b a=>callsIn_wide.2 (AnyM.slices_Sort_string_none Q4 g b a)⟩
def Uo(c:Z)(f:BA->Option ε)(g:Nat)(e:aI)(b:Z):Prop:=∃(v:ε) (a:List BA),e=ξ v/\b.ownsRow c.heap.size 9 1 v a.length (a.map H)/\a.length<=g/\(∀d∈a,bR.ok d/\(f d).isSome=true)/\Y c b γ
theorem adO{p:BA->Option ε}(s:aC bR w y p k)(O:k<=1000000):ν δ 114 #[af (.func 189) #[] #[π (N (U w.heap.size 0 A))]] (w.alloc (ζ #[ω (N y)] 122)) (Uo w p k):=by
 obtain⟨h,d,M,t⟩:=s;have x:=d.lt;have H:=d.size_le
 have G:SeqGives rC 2 δ 189 #[π (N (U w.heap.size 0 A))] encStr (λe=>e.Perm (strKeys h)) (xL h) (w.alloc (ζ #[ω (N y)] 122)):=
  AnyZ.keys_gives (ρ:=Q0) {QZ with} rC _ trivial rfl (by omega) w.heap.size y k h _ (by simp) (by simp) (by obtain⟨l,clock,c,r,F,f⟩:=d;exact⟨l,clock,(JW _ _ y x).trans c,r,F,f⟩)
 have j:=AnyZ.sorted_in afG rC 5 trivial trivial trivial trivial rfl (by omega) (adQ _) (enters_of func52 (by kernel_rfl) rfl) 189 #[π (N (U w.heap.size 0 A))] trivial (enters_of func189 (by kernel_rfl) rfl) _ _ (by simp[Χ];omega) (by omega) _ G;change CallsIn _ _ δ 114 _ _ _ at j;refine((callsIn_wide (n:=5)).1 j).mono ?_;rintro L R ⟨v,e,rfl,m,E,P,c⟩;obtain⟨l,f,z⟩:=d.keysOf;have B:=strKeys_le d ti;have b:=List.mergeSort_perm e (λg i=>decide (g<=i));have C:e.length<=k:=by rw[m.length_eq];refine aJ ?_ H;subst f;simp[strKeys,xL]
 refine⟨v,(e.mergeSort (λg i=>decide (g<=i))).map (λa=>⟨a.toArray⟩),rfl,?_,by simpa[b.length_eq] using C,?_,Y.of_below (((iz _ w).alloc (Ο _) _).trans (c.mono (by simp))) γ⟩
 .rw[dN,b.length_eq,tM];exact ownsRow_base_a E (by simp)
 intro g J;obtain⟨a,c,rfl⟩:=eO.1 J;have n:=m.mem_iff.1 (b.mem_iff.1 c);have o:bR.ok ⟨a.toArray⟩:=by show((D a.toArray):BA).size<=Χ;rw[show((D a.toArray):BA).size=a.length from(by simp[ByteArray.size])];exact B a n
 refine⟨o,?_⟩;rw[<-t _ o];subst f;obtain⟨q,b,rfl⟩:=eO.1 n;obtain⟨Q,I⟩:=z q b;obtain⟨K,_,u,_⟩:=Maps.keyOf_str ti I;rw[has_eq,tL];exact⟨q,b,by rw[u];simp[Lit.sameKey,Go.strOf,bR]⟩
end
section
open Go.Sort
theorem xw:prog.underlying 122=N (.map 9 194):=by kernel_rfl
theorem Jy:∀w:Z,nW δ (zeroValue 194) w= .ok (π A) w:=λ_=>by kernel_rfl
theorem aC.no{b:Type}{c:lU b}{w:Z}{a n:Nat}{m:b->Option ε}(e:aC c w a m n){h:aQ}{d:Array ε}:¬θ w a h d:=by obtain⟨i,⟨k,j,f,_⟩,_⟩:=e;intro g;have:=f.symm.trans g;simp at this
theorem Il{w:Z}{e:Nat}{a d:aQ}{l:Nat}{v:ε}{n:Nat}{xs:List ε}(h:w.ownsRow e a l v n xs){c:Nat}(b:v.ownBlock=N c)(k:a≠d){g:Array ε}:¬θ w c d g:=by
 obtain⟨a,_⟩|⟨f,_,_,a,_,j,_⟩:=h.2
 .rw[a] at b;cases b
 intro i;rw[a] at b;obtain rfl:f=c:=cr b;have:=j.symm.trans i;simp at this;exact k this.2
theorem θ.no{w:Z}{g:Nat}{a b:aQ}{c d:Array ε}(e:θ w g a c)(h:a≠b):¬θ w g b d:=by intro f;have:=e.symm.trans f;simp at this;exact h this.2
def Tc(w:Z)(F:Bs)(v:ε):Prop:=∃a b c,v=π (N (U a 0 A))/\F a/\θ w a 266 #[I E b,I E 0,ι false,ι c]
structure jH (w:Z) (g n:Nat) (F:Bs) (mb:Nat) (m:BA->Option ε) (ov:ε) (xs:List BA):Prop where
 blk:θ w g 124 #[ω (N mb),ov,I E 10]
 map:aC bR w mb m 64
 own:w.ownsRow 0 9 1 ov n (xs.map H)
 dev:∀x v,m x=N v->Tc w F v
 ne:g≠mb
 apart:∀b,ov.ownBlock=N b->b≠g/\b≠mb
 fg:F g
 fm:F mb
 fo:∀b,ov.ownBlock=N b->F b
 lt:∀k,F k->k<w.heap.size
def pn(w:Z)(g n:Nat)(F:Bs):Prop:=∃mb m ov xs,jH w g n F mb m ov xs
section
variable {w w':Z} {g n:Nat} {F:Bs} {mb:Nat} {m:BA->Option ε} {ov:ε} {xs:List BA}
theorem jH.stay(a:jH w g n F mb m ov xs)(c:∀b,F b->w'.heap[b]? =w.heap[b]?):jH w' g n F mb m ov xs where
 blk:=(c g a.fg).trans a.blk
 map:=a.map.same (c mb a.fm)
 own:=pY a.own λd e=>c d (a.fo d e)
 dev x v hx:=by obtain⟨f,j,d,k,i,e⟩:=a.dev x v hx;exact⟨f,j,d,k,i,(c f i).trans e⟩
 ne:=a.ne
 apart:=a.apart
 fg:=a.fg
 fm:=a.fm
 fo:=a.fo
 lt b hk:=by have h:=c b hk;rw[Array.getElem?_eq_getElem (a.lt b hk)] at h;exact(Ah.1 h).1
end
theorem vO(g n:Nat):ju λw F=>pn w g n F where
 lt a k hk:=by obtain⟨mb,m,ov,xs,a⟩:=a;exact a.lt k hk
 stay a he:=by obtain⟨mb,m,ov,xs,a⟩:=a;exact⟨mb,m,ov,xs,a.stay he⟩
theorem ahy(w:Z):ν δ 25 #[I E 10] w λb w'=>∃g F,b=ξ (π (N (U g 0 A)))/\pn w' g 0 F/\Ψ w w' γ F:=by
 have d:= @run_makeMap δ;go_enter func25,ntmps25;go_wp2;all_goals go_ret
 all_goals
  refine⟨w.heap.size+1,λa=>a=w.heap.size+1\/a=w.heap.size,rfl,⟨w.heap.size,λ_=>A,V A 0 0,[],⟨θ.dA _ _ _ _,((aC.made bR w).alloc _).mono (by omega),db _ _ _ _,nofun,by omega,nofun,.inl rfl,.inr rfl,nofun,?_⟩⟩,⟨((Y.refl w γ).alloc _).alloc _,λa c=> .inr (by omega)⟩⟩
  .intro a c;simp;omega
theorem jH.Iq{w:Z}{g n:Nat}{F:Bs}{mb:Nat}{m:BA->Option ε}{ov:ε}{xs:List BA}(a:jH w g n F mb m ov xs){d:Nat}{q:Array ε}(G:F d)(i:θ w d 266 q)(e:Nat)(h:ε)(y:∃j c,q.setIfInBounds e h=#[I E j,I E 0,ι false,ι c]):jH (w.setCell (U d e A) h) g n F mb m ov xs:=by
 have f:Y w (w.setCell (U d e A) h) (·=d):=(Y.refl w (·=d)).χ (p:=(U d e A)) (.inl rfl) h;have z:g≠d:=λb=>a.blk.no (by decide) (b▸i);have B:mb≠d:=λb=>a.map.no (b▸i);have C:∀c,ov.ownBlock=N c->c≠d:=λc l b=>Il a.own l (by decide) (b▸i);refine⟨f.blk a.blk z,a.map.keeps f B,aD a.own f C,λp v o=> ?_,a.ne,a.apart,a.fg,a.fm,a.fo,λp o=>dQ (a.lt p o) f.size⟩;obtain⟨k,j,c,b,r,l⟩:=a.dev p v o;by_cases s:k=d
 .subst s;obtain⟨t,u,x⟩:=y;exact⟨k,t,u,b,r,(i.χ e h).to x⟩
 exact⟨k,j,c,b,r,f.blk l s⟩
def Sq(d:Z)(g n:Nat)(F:Bs)(mb:Nat)(m:BA->Option ε)(c:aI)(w:Z):Prop:=c=ξ (σ #[])/\∃b a ov xs,jH w g b a mb m ov xs/\Ψ d w F a/\b<=n+1
theorem Ju{w:Z}{g n:Nat}{F:Bs}{mb:Nat}{m:BA->Option ε}{ov:ε}{xs:List BA}(a:jH w g n F mb m ov xs)(h:BA)(Ι:Int)(am:h.size<=Χ)(al:n<=1000000000000)(v:ε)(M:m h=N v):ν δ 116 #[π (N (U g 0 A)),H h,I E Ι] w (Sq w g n F mb m):=by
 have x:=a.map.look dG (t:=122) (e:=194) xw (Jy w) (x:=h) am;simp only[bR] at x;rw[M] at x;obtain⟨l,C,d,rfl,L,b⟩:=a.dev h _ M;have W:=a.blk.cell 0;have aa:=a.blk.cell 2;have ac:=b.cell 0;have ad:=b.cell 1;have ae:=b.cell 2;have af:=b.cell 3;have ap:=b.frozen 3;have aq:=b.frozen 2;simp at W aa ac ad ae af x;have X:=a.blk.cell 1;simp at X;by_cases au:0<C
 .cases d
  .obtain⟨G,K,rfl⟩:=eX a.own;have o:∀c,jH ((w.drewN c).setCell (U l 3 A) (ι true)) g n F mb m (V G n K) xs:=λc=>jH.Iq (a.stay (w':=w.drewN c) λ_ _=>rfl) L (b.drewN c) 3 _ ⟨C,true,by simp⟩;have J:∀c,((w.drewN c).setCell (U l 3 A) (ι true)).cell? (U g 1 A)=N (V G n K):=λc=>by have:=(o c).blk.cell 1;simpa using this
   have O:∀c,Ψ w ((w.drewN c).setCell (U l 3 A) (ι true)) F F:=λc=>((Ψ.refl w F).drewN c).χ (p:=(U l 3 A)) L _;have y:=λc=>nB 0 (o c).own h al (ai _);simp only[World.size_setCell,World.heap_drewN] at y;go_enter func116,ntmps116;go_wp2_with fail;go_quiet (fail)
   obtain⟨aw,z,ao,u,j,Q⟩:=y nq;have e:=o nq;have aj:=O nq;have av:=J nq;clear y o J O;have q:=j.blk e.blk (λf=>(e.apart _ f).1 rfl);have ar:=q.frozen 1;have ah:=q.cell 1;simp at ah
   have R:Ψ w z F (λi=>F i\/w.heap.size<=i/\i<z.heap.size):=
    ⟨aj.keeps.trans j λB f=> .inl (e.fo B f),λi t=>t.elim .inl λa=> .inr a.1⟩
   obtain⟨p,r,rfl⟩:=eX u;go_wp2_with (at_builtin;refine dy rfl (.tmp 54) (.tmp 56) 26 rfl rfl rfl ao ?_);go_wp2;all_goals go_end0
   all_goals
    have k:=(Y.refl z (·=g)).χ (p:=(U g 1 A)) (.inl rfl) (V p (n+1) r)
    have P:∀d,(V p (n+1) r).ownBlock=N d->d≠g/\d≠mb:=λd b=>by
     obtain a|a:=Q d b
     .exact e.apart d a
     have:=e.blk.lt;have:=e.map.lt;simp at*;omega
    refine⟨rfl,n+1,_,V p (n+1) r,xs++[h],⟨(q.χ 1 _).to (by simp),(e.map.keeps j λf=>(e.apart _ f).2 rfl).keeps k λf=>a.ne f.symm,?_,λB v an=> ?_,a.ne,P,.inl a.fg,.inl a.fm,λd b=> ?_,λi t=> ?_⟩,R.χ (p:=(U g 1 A)) (.inl a.fg) _,Ο _⟩
    .rw[lP];exact aD u k λd b=>(P d b).1
    .obtain⟨ab,S,T,ag,ak,s⟩:=e.dev B v an;exact⟨ab,S,T,ag,.inl ak,k.blk (j.blk s λf=>Il e.own f (by decide) s) λf=>e.blk.no (by decide) (f▸s)⟩
    .obtain a|a:=Q d b
     .exact .inl (e.fo d a)
     exact .inr ⟨a,ie u b⟩
    .obtain a|a:=t
     .have:=e.lt i a;have:=j.size;have:=k.size;omega
     have:=k.size;omega
  go_enter func116,ntmps116;go_wp2_with fail;go_quiet (fail)
  go_wp2;all_goals go_end0
  all_goals exact⟨rfl,n,F,_,xs,a.stay λ_ _=>rfl,(Ψ.refl w F).drewN _,by omega⟩
 go_enter func116,ntmps116;go_wp2_with fail;go_quiet (fail)
 go_wp2;all_goals go_end0
 all_goals exact⟨rfl,n,F,_,xs,a.stay λ_ _=>rfl,(Ψ.refl w F).drewN _,by omega⟩
def Fz(e:Z)(g n:Nat)(F:Bs)(d:aI)(w:Z):Prop:=(∃c,d=ξ (I E c))/\∃b a,pn w g b a/\Ψ e w F a/\b<=n+1
theorem Zt{w:Z}{g n:Nat}{F:Bs}{mb:Nat}{m:BA->Option ε}{ov:ε}{xs:List BA}(b:jH w g n F mb m ov xs)(a:BA)(Ι:Int)(j:a.size<=Χ)(y:n<=1000000000000)(v:ε)(d:m a=N v):ν δ 312 #[π (N (U g 0 A)),H a,I E Ι] w (Fz w g n F):=by
 have e:=b.map.look dG (t:=122) (e:=194) xw (Jy w) (x:=a) j;simp only[bR] at e;rw[d] at e;obtain⟨h,f,l,rfl,i,c⟩:=b.dev a _ d;have o:=b.blk.cell 0;have p:=c.cell 0;have C:=c.frozen 0;simp at o p e;have s:=b.Iq i c 0 (I E (wrap64 (f+1))) ⟨_,l,by simp;rfl⟩;have q:Ψ w (w.setCell (U h 0 A) (I E (wrap64 (f+1)))) F F:=(Ψ.refl w F).χ (p:=(U h 0 A)) i _;have u:=K (Ju s a Ι j y _ d);go_enter func312,ntmps312;go_wp2_with fail
 all_goals first
  |(refine u.out.mono ?_;rintro B J ⟨rfl,z,k,G,L,t,r,x⟩;go_wp2;go_ret;exact⟨⟨_,rfl⟩,z,k,⟨_,_,_,_,t⟩,q.trans r,x⟩)
  |(go_ret;exact⟨⟨_,rfl⟩,n,F,⟨_,_,_,_,b⟩,Ψ.refl w F,by omega⟩)
theorem Zs{w:Z}{g n:Nat}{F:Bs}{mb:Nat}{m:BA->Option ε}{ov:ε}{xs:List BA}(a:jH w g n F mb m ov xs)(c:BA)(Ι:Int)(l:c.size<=Χ)(aa:n<=1000000000000)(X:m c=A):ν δ 312 #[π (N (U g 0 A)),H c,I E Ι] w (Fz w g n F):=by
 have q:=a.map.look dG (t:=122) (e:=194) xw (Jy w) (x:=c) l;simp only[bR] at q;rw[X] at q;have y:=a.blk.cell 0;simp at y q;obtain⟨ab,aj,T,ai⟩:=a.map.len xw 3;have o:Y w (w.alloc (ζ #[I E 0,I E 0,ι false,ι false] 266)) γ:=(Y.refl w γ).alloc _;have x:=θ.new w 266 #[I E 0,I E 0,ι false,ι false];have am:w.heap.size<(w.alloc (ζ #[I E 0,I E 0,ι false,ι false] 266)).heap.size:=by simp
 have ac:=T.keeps o id;have r:=o.blk a.blk id;by_cases V:ab=64
 .subst V;go_enter func312,ntmps312;go_wp2;all_goals(go_ret;exact⟨⟨_,rfl⟩,n,F,⟨_,_,_,_,a⟩,Ψ.refl w F,by omega⟩)
 obtain⟨i,af,ad,p⟩:=ac.store dG (t:=122) (e:=194) xw (by unfold Χ;omega) (x:=c) l (π (N (U w.heap.size 0 A)));simp only[bR] at af;have B:=r.cell 0;simp at B;have ak:=a.map.lt;have ah:=a.blk.lt;have d:=p.blk x (by omega);have Q:=d.cell 0;have ag:=d.frozen 0;simp at Q;have kk:Y w i (·=mb):=(o.any).trans p λ_ a=> .inl a
 have M:jH i g n (λb=>F b\/w.heap.size<=b/\b<i.heap.size) mb (put m c (N (π (N (U w.heap.size 0 A))))) ov xs:=by
  refine⟨p.blk r a.ne,ad.mono (by omega),aD a.own kk λj h=>(a.apart j h).2,λs v k=> ?_,a.ne,a.apart,.inl a.fg,.inl a.fm,λj h=> .inl (a.fo j h),λb f=> ?_⟩
  .by_cases e:s=c
   .subst e;rw[dJ] at k;cases k
    exact⟨w.heap.size,0,false,rfl,.inr ⟨Ο _,d.lt⟩,d⟩
   rw[dI _ _ _ _ e] at k;obtain⟨z,u,j,C,S,h⟩:=a.dev s v k;exact⟨z,u,j,C,.inl S,kk.blk h λe=>a.map.no (e▸h)⟩
  obtain f|f:=f
  .exact dQ (a.lt b f) kk.size
  exact f.2
 have G:Ψ w i F (λb=>F b\/w.heap.size<=b/\b<i.heap.size):=⟨kk.mono λ_ e=> .inl (e▸a.fm),λb f=>f.elim .inl λa=> .inr a.1⟩;have O:=M.Iq (d:=w.heap.size) (.inr ⟨Ο _,d.lt⟩) d 0 (I E 1) ⟨_,_,by simp;exact⟨rfl,rfl⟩⟩;have J:=G.χ (p:=(U w.heap.size 0 A)) (.inr ⟨Ο _,d.lt⟩) (I E 1);have R:=K (Ju O c Ι l aa _ (dJ m c _));go_enter func312,ntmps312;go_wp2_with fail
 all_goals first
  |(refine R.out.mono ?_;rintro e an ⟨rfl,ae,t,al,ao,P,L,W⟩;go_wp2;go_ret;exact⟨⟨_,rfl⟩,ae,t,⟨_,_,_,_,P⟩,J.trans L,W⟩)
  |(go_ret;exact⟨⟨_,rfl⟩,n,F,⟨_,_,_,_,a⟩,Ψ.refl w F,by omega⟩)
theorem Zr{w:Z}{g n:Nat}{F:Bs}(b:pn w g n F)(a:BA)(Ι:Int)(e:a.size<=Χ)(d:n<=1000000000000):ν δ 312 #[π (N (U g 0 A)),H a,I E Ι] w (Fz w g n F):=by
 obtain⟨mb,m,ov,xs,b⟩:=b;cases c:m a with
 |none=>exact Zs b a Ι e d c
 |some v=>exact Zt b a Ι e d v c
theorem ZF(w:Z)(b:ε):ν δ 86 #[V A 0 0,b] w λa w'=>a=ξ (I E (-1))/\w'=w:=by
 go_enter func86,ntmps86;go_wp2;go_loopw [5,8] (λ_ c wr=>c=I E 0/\wr=w) (λ_ _ _=>0)
 case atStart=>exact⟨rfl,rfl⟩
 obtain⟨rfl,rfl⟩:=hrel;go_wp2;all_goals(go_ret;exact⟨rfl,rfl⟩)
theorem Xb(w:Z)(b:ε):ν δ 185 #[V A 0 0,b] w λa w'=>a=ξ (V A 0 0)/\w'=w:=by have c:=K (ZF w b);go_enter func185,ntmps185;go_wp2_with fail;refine c.out.mono ?_;rintro a d ⟨rfl,rfl⟩;go_wp2;all_goals(go_ret;exact⟨rfl,rfl⟩)
end
def look(L:List (Nat×υ))(id:Int):Option ε:=(L.find? λa=>a.2.id==id).map λa=> π (N ⟨a.1,0,A⟩)
structure gP (w:Z) (g mb:Nat) (last:Int) (L:List (Nat×υ)) (F:Bs):Prop where
 blk:θ w g 121 #[ω (N mb),I E last,I E 4,I E 20]
 map:aC cM w mb (look L) L.length
 cells:∀p∈L,θ w p.1 42 p.2.cells
 dM:L.Pairwise λa b=>a.2.id<b.2.id
 nodup:(L.map (·.1)).Nodup
 bj:∀p∈L,0<p.2.id/\p.2.id<=last
 bP:0<=last/\last<=1000000000000
 ne:g≠mb
 apart:∀p∈L,p.1≠g/\p.1≠mb
 ak:∀k,F k↔(k=g\/k=mb\/∃p∈L,p.1=k)
def fw(w:Z)(g:Nat)(last:Int)(L:List (Nat×υ))(F:Bs):Prop:=∃mb,gP w g mb last L F
theorem qR{L:List (Nat×υ)}(h:L.Pairwise λd e=>d.2.id<e.2.id){b:Nat×υ}(a:b∈L):L.find? (λc=>c.2.id==b.2.id)=N b:=by
 induction L with
 |nil=>cases a
 |cons c L i=>
  obtain⟨f,g⟩:=AK.1 h;obtain rfl|a:=dD.1 a
  .simp
  have:=f b a;rw[List.find?_cons_of_neg (by simp;omega)];exact i g a
theorem Pb{L:List (Nat×υ)}(e:L.Pairwise λb c=>b.2.id<c.2.id){a:Nat×υ}(d:a∈L):look L a.2.id=N (π (N ⟨a.1,0,A⟩)):=by unfold look;rw[qR e d];rfl
theorem Pd{L:List (Nat×υ)}{id:Int}(c:(look L id).isSome=true):∃a∈L,a.2.id=id:=by
 unfold look at c;cases b:L.find? (λa=>a.2.id==id) with
 |none=>rw[b] at c;cases c
 |some a=>exact⟨a,rE b,by simpa using List.find?_some b⟩
theorem aaM{L:List (Nat×υ)}{id:Int}(a:∀b∈L,b.2.id≠id):look L id=A:=by unfold look;rw[lM.2 (by simpa using a)];rfl
section
variable {w w':Z} {g mb:Nat} {last:Int} {L:List (Nat×υ)} {F:Bs}
theorem gP.lt(a:gP w g mb last L F):∀b,F b->b<w.heap.size:=by
 intro b c;obtain rfl|rfl|⟨p,hp,rfl⟩:=(a.ak b).1 c
 .exact a.blk.lt
 .exact a.map.lt
 exact(a.cells p hp).lt
theorem gP.stay(a:gP w g mb last L F)(b:∀c,F c->w'.heap[c]? =w.heap[c]?):gP w' g mb last L F:=
 ⟨(b g ((a.ak g).2 (.inl rfl))).trans a.blk,a.map.same (b mb ((a.ak mb).2 (.inr (.inl rfl)))),λd e=>(b d.1 ((a.ak _).2 (.inr (.inr ⟨d,e,rfl⟩)))).trans (a.cells d e),a.dM,a.nodup,a.bj,a.bP,a.ne,a.apart,a.ak⟩
theorem gP.keeps{G:Bs}(b:gP w g mb last L F)(e:Y w w' G)(d:∀a,F a->¬G a):gP w' g mb last L F:=
 b.stay λa c=>e.block a (b.lt a c) (d a c)
theorem lJ(g:Nat)(last:Int)(L:List (Nat×υ)):ju λw F=>fw w g last L F where
 lt a k hk:=by obtain⟨mb,a⟩:=a;exact a.lt k hk
 stay a he:=by obtain⟨mb,a⟩:=a;exact⟨mb,a.stay he⟩
theorem gP.keys(d:gP w g mb last L F){e:List Int}(o:e.Pairwise (·<·))(j:∀c,c∈e↔(cM.ok c/\(look L c).isSome=true)):e=L.map (·.2.id):=by
 have k:=d.dM;have hid:=d.bj;have p:=d.bP;clear d;have h:∀c,c∈e↔∃b∈L,b.2.id=c:=by intro c;rw[j];refine⟨λr=>Pd r.2,λ⟨b,a,f⟩=> ?_⟩;subst f;have:=hid b a;exact⟨⟨by omega,by omega⟩,by rw[Pb k a];rfl⟩
 clear j hid p;induction L generalizing e with
 |nil=>
  cases e with
  |nil=>rfl
  |cons c e=>obtain⟨b,a,_⟩:=(h c).1 (dP ..);cases a
 |cons i L s=>
  obtain⟨m,t⟩:=AK.1 k;cases e with
  |nil=>have:=(h i.2.id).2 ⟨i,dP ..,rfl⟩;cases this
  |cons c e=>
   obtain⟨t1,t2⟩:=AK.1 o
   have f:c=i.2.id:=by
    obtain⟨b,a,f⟩:=(h c).1 (dP ..);have q:=(h i.2.id).2 ⟨i,dP ..,rfl⟩;obtain rfl|a:=dD.1 a
    .exact f.symm
    have:=m b a;obtain d|d:=dD.1 q
    .exact d.symm
    have:=t1 _ d;omega
   subst f;rw[lm,s t2 t λn=> ?_];constructor
   .intro l;have u:=t1 n l;obtain⟨b,a,f⟩:=(h n).1 (eZ _ l);obtain rfl|a:=dD.1 a
    .omega
    exact⟨b,a,f⟩
   rintro⟨b,a,rfl⟩;have:=m b a;obtain d|d:=dD.1 ((h b.2.id).2 ⟨b,eZ _ a,rfl⟩)
   .omega
   exact d
end
def mJ(L:List (Nat×υ)):List ε:=L.map λa=> π (N ⟨a.1,0,A⟩)
theorem agM:prog.underlying 153=N (.slice 155):=by kernel_rfl
theorem QU:(prog.info? 155).map (λa=>(a.zero,a.size,a.bytes))=N (N (π A),1,8):=by kernel_rfl
theorem vd:prog.underlying 119=N (.map 3 155):=by kernel_rfl
theorem R6:∀w:Z,nW δ (zeroValue 155) w= .ok (π A) w:=λ_=>by kernel_rfl
theorem U'{w:Z}(b:Nat){v:ε}{d:Nat}{g:List ε}(i:w.ownsRow b 155 1 v d g)(c:Nat)(j:d<=1000000)(h:b<=w.heap.size):∃e w',(gJ #[153,153] 153 #[v,V (N (U w.heap.size 0 A)) 1 1]).run δ (w.alloc (ζ #[π (N (U c 0 A))] 155))= .ok e w'/\w'.ownsRow b 155 1 e (d+1) (g++[π (N (U c 0 A))])/\Y w w' (λa=>v.ownBlock=N a)/\∀a,e.ownBlock=N a->v.ownBlock=N a\/w.heap.size<=a:=
 nA b 153 155 agM QU rfl (by decide) i [π (N (U c 0 A))] rfl (λk f=>by simp at f;subst f;rfl) (by unfold Χ;omega) (by omega) h
def F7(w:Z)(L:List (Nat×υ))(g:Nat)(d:Array ε)(e:υ->Bool):Prop:=
 ∀a,Y w a γ->∀b∈L,ν δ g (#[π (N ⟨b.1,0,A⟩)]++d) a λc w'=>c=ξ (ι (e b.2))/\∃f,w'=a.drewN f
def Sk(a:Z)(L:List (Nat×υ))(b:aI)(w:Z):Prop:=∃v,b=ξ v/\w.ownsRow a.heap.size 155 1 v L.length (mJ L)/\Y a w γ
theorem Bv{w:Z}{Q:Nat}{last:Int}{L:List (Nat×υ)}{F:Bs}(c:fw w Q last L F)(ao:L.length<=1000)(g:Nat)(H:Array ε)(s:∀args w,(callFunc g args).run δ w= .ok (.enter g args) w)(e:υ->Bool)(X:F7 w L g H e):ν δ 75 #[π (N (U Q 0 A)),af (.func g) #[] H] w (Sk w (L.filter λb=>e b.2)):=by
 obtain⟨mb,c⟩:=c;have m:=c.blk.cell 0;simp at m;have R:=K (adN c.map (by omega));have s:=K s;go_enter func75,ntmps75;go_wp2_with fail;refine(aai).mono ?_;rintro d p ⟨rfl,rfl⟩;go_wp2_with fail;refine R.out.mono ?_;rintro d p ⟨v,av,rfl,o,O,P,G⟩;obtain rfl:=c.keys O P;have z:(L.map (·.2.id)).length=L.length:=dN _;rw[z] at o;obtain⟨S,aj,rfl⟩:=eX o;have ar:(L.length:Int)<=9223372036854775807:=by omega
 clear O P z m;go_wp2;go_loopw [5,7,8,18] (λab _ _ x wr=>∃(a:Nat),a<=L.length/\x=I E a/\wr.ownsRow p.heap.size 155 1 ab ((L.take a).filter λb=>e b.2).length (mJ ((L.take a).filter λb=>e b.2))/\Y p wr γ) (λ_ _ _ x _=>L.length-(aB x).toNat)
 case atStart=>exact⟨0,ai _,rfl,db _ _ _ _,Y.refl _ _⟩
 obtain⟨a,ap,rfl,f,j⟩:=hrel;have q:Y w wr γ:=G.trans j Η;have B:=c.keeps q λ_ _ c=>c;by_cases t:a<L.length
 .have W:(a:Int)<L.length:=by omega
  have u:L[a]∈L:=eA t
  obtain⟨h,rfl⟩:∃h,S=N (U h 0 A):=by
   obtain⟨d,aq⟩|⟨r,al,am,d,_⟩:=o.2
   .omega
   .injection d with i;exact⟨r,i⟩
  have az:wr.cell? (U h a A)=N (I E L[a].2.id):=by
   have ac:=aD o j λ_ _ c=>c;have:=ac.cells (g:=h) rfl a (I E L[a].2.id) (by simp[t]);have d:((⟨h,0,A⟩:Addr).add a)=⟨h,a,A⟩:=by unfold jm;by_cases T:a=0<;>simp[T]
   rw[d] at this;exact this
  have m:=B.blk.cell 0;simp at m;have hid:=c.bj _ u;have V:=c.bP;have M:=B.map.look fI (t:=119) (e:=155) vd (R6 wr) (x:=L[a].2.id) ⟨by omega,by omega⟩;rw[Pb c.dM u] at M;simp only[cM,Option.getD_some] at M;have l:=K (X wr q _ u);have C:L.take (a+1)=L.take a++[L[a]]:=by rw[lq t]
  have TT:=K C;clear C hid V;generalize L[a]=b at*;obtain⟨J,y⟩:=b;simp only at*;generalize hid:y.id=id at*;clear hid;have an:=s.out;cases n:e y with
  |true=>
   rw[n] at l;go_wp2_with (first|(go_at_fn g;refine l.out.mono ?_;rintro d ag ⟨rfl,k,rfl⟩;obtain⟨aw,ax,ae,ad,aa,au⟩:=U' p.heap.size (pY (w':=wr.drewN k) f λ_ _=>rfl) J (by have:=jo (λb:Nat×υ=>e b.2) (L.take a);have:=List.length_take_le a L;omega) j.size)|(at_builtin;refine dy rfl (.tmp 31) (.tmp 33) 153 rfl rfl rfl ae ?_));have i:(L.take (a+1)).filter (λb=>e b.2)=(L.take a).filter (λb=>e b.2)++[(J,y)]:=by rw[TT.out,EP];simp[n]
   refine⟨⟨a+1,by omega,by go_num,?_,?_⟩,by simp[aB];omega⟩
   .rw[i];simpa[mJ] using ad
   exact(j.drewN k).trans aa λr d=> .inr ((f.lt r d).1)
  |false=>
   rw[n] at l;go_wp2_with (go_at_fn g;refine l.out.mono ?_;rintro d ag ⟨rfl,k,rfl⟩);have i:(L.take (a+1)).filter (λb=>e b.2)=(L.take a).filter (λb=>e b.2):=by rw[TT.out,EP];simp[n]
   exact⟨⟨a+1,by omega,by go_num,by rw[i];exact pY (w':=wr.drewN k) f λ_ _=>rfl,j.drewN k⟩,by simp[aB];omega⟩
 obtain rfl:a=L.length:=by omega
 have W:¬(L.length:Int)<L.length:=by omega
 rw[pd] at f;obtain⟨ah,ak,rfl⟩:=eX f;have f:=K f;go_wp2;all_goals(go_ret;exact⟨_,rfl,wU f.out G.size,q⟩)
def ig(a:Option (Nat×υ)):ε:=π (a.map λb=>⟨b.1,0,A⟩)
def pu(c:Z)(b:Option (Nat×υ))(a:aI)(w:Z):Prop:=a=ξ (ig b)/\Y c w γ
theorem Nq{w:Z}{t:Nat}{last:Int}{L:List (Nat×υ)}{F:Bs}(m:fw w t last L F)(x:L.length<=1000)(e:Nat)(i:Array ε)(l:∀args w,(callFunc e args).run δ w= .ok (.enter e args) w)(c:υ->Bool)(o:F7 w L e i c):ν δ 234 #[π (N (U t 0 A)),af (.func e) #[] i] w (pu w (L.find? λa=>c a.2)):=by
 have j:=K (Bv m x e i l c o);have n:L.find? (λa=>c a.2)=(L.filter λa=>c a.2).head? :=by rw[List.head?_filter]
 rw[n];clear o l m n;generalize(L.filter λa=>c a.2)=d at*;cases d with
 |nil=>
  go_enter func234,ntmps234;go_wp2_with fail;refine j.out.mono ?_;rintro g p ⟨v,rfl,b,h⟩;obtain⟨k,r,rfl⟩:=eX b;have u:¬((([]:List (Nat×υ)).length:Int)>0):=by simp
  clear b;simp only[List.length_nil] at*;go_wp2;all_goals(go_ret;exact⟨rfl,h⟩)
 |cons a d=>
  go_enter func234,ntmps234;go_wp2_with fail;refine j.out.mono ?_;rintro g p ⟨v,rfl,b,h⟩;obtain⟨k,r,rfl⟩:=eX b
  obtain⟨f,rfl⟩:∃f,k=N (U f 0 A):=by
   obtain⟨g,y⟩|⟨q,z,B,g,_⟩:=b.2
   .simp at y
   .injection g with s;exact⟨q,s⟩
  have G:p.cell? (U f 0 A)=N (π (N ⟨a.1,0,A⟩)):=b.cells (g:=f) rfl 0 _ rfl;have u:(0:Int)<((a::d).length:Int):=by simp
  have C:0<(a::d).length:=by simp
  generalize(a::d).length=E at*;clear b;go_wp2;all_goals(go_ret;exact⟨rfl,h⟩)
section
variable {w:Z} {t:Nat} {last:Int} {L:List (Nat×υ)} {F:Bs}
theorem zS(b:fw w t last L F){e:Nat}{g:Array ε}{h:υ->Bool}(k:∀a,Y w a γ->∀d i,θ a d 42 i.cells->ν δ e (#[π (N (U d 0 A))]++g) a λj n=>j=ξ (ι (h i))/\∃m,n=a.drewN m):F7 w L e g h:=by intro a f c l;obtain⟨o,b⟩:=b;exact k a f c.1 c.2 (f.blk (b.cells c l) id)
theorem C8(b:fw w t last L F)(g:L.length<=1000)(a:Int):ν δ 161 #[π (N (U t 0 A)),I E a] w (pu w (L.find? λk=>dW k.2 a)):=by have d:Y w (w.alloc (ζ #[I E a] 3)) γ:=(Y.refl w γ).alloc _;have c:=(lJ t last L).keeps b d λ_ _ b=>b;have f:=K (Nq c g 235 #[π (N (U w.heap.size 0 A))] (enters_of func235 (by kernel_rfl) rfl) (λe=>dW e a) (zS c λl i m e h=>abL h w.heap.size a (by rw[(i.blk (θ.new w 3 #[I E a]) id).cell];rfl)));clear c b;go_enter func161,ntmps161;go_wp2_with fail;refine f.out.mono ?_;rintro n o ⟨rfl,j⟩;unfold ig;go_wp2;all_goals(go_ret;exact⟨rfl,d.trans j Η⟩)
theorem RJ(b:fw w t last L F)(g:L.length<=1000)(a:BA):ν δ 239 #[π (N (U t 0 A)),H a] w (pu w (L.find? λk=>mR k.2 a)):=by have d:Y w (w.alloc (ζ #[H a] 9)) γ:=(Y.refl w γ).alloc _;have c:=(lJ t last L).keeps b d λ_ _ b=>b;have f:=K (Nq c g 295 #[π (N (U w.heap.size 0 A))] (enters_of func295 (by kernel_rfl) rfl) (λe=>mR e a) (zS c λl i m e h=>abP h w.heap.size a (by rw[(i.blk (θ.new w 9 #[H a]) id).cell];rfl)));clear c b;go_enter func239,ntmps239;go_wp2_with fail;refine f.out.mono ?_;rintro n o ⟨rfl,j⟩;unfold ig;go_wp2;all_goals(go_ret;exact⟨rfl,d.trans j Η⟩)
def aF(a:Int):Prop:= -9223372036854775808<=a/\a<=9223372036854775807
theorem Ck(a:fw w t last L F)(id:Int)(hid:aF id):ν δ 77 #[π (N (U t 0 A)),I E id] w λc f=>c=ξ (ig (L.find? λb=>b.2.id==id))/\w=f:=by
 obtain⟨g,a⟩:=a;have e:=a.blk.cell 0;simp at e;have d:=a.map.look fI (t:=119) (e:=155) vd (R6 w) (x:=id) hid;have c:(look L id).getD (π A)=ig (L.find? λb=>b.2.id==id):=by unfold look ig;cases L.find? λb=>b.2.id==id<;>rfl
 rw[c] at d;simp only[cM,ig] at d;unfold ig;clear c a;go_enter func77,ntmps77;go_wp2;all_goals(go_ret;exact⟨rfl,rfl⟩)
def υ.zero:υ:=⟨0,(D #[]),(D #[]),(D #[]),0,0⟩
def rq(a:Option (Nat×υ)):ε:= .agg ((a.map (·.2)).getD υ.zero).cells
theorem rH(B:fw w t last L F)(id:Int)(hid:aF id):ν δ 47 #[π (N (U t 0 A)),I E id] w λQ ad=>Q=ξ (σ #[rq (L.find? λl=>l.2.id==id),ι (L.find? λl=>l.2.id==id).isSome])/\Y w ad γ:=by
 have R:Y w (w.alloc (ζ #[I E 0,H (D #[]),H (D #[]),H (D #[]),I E 0,I E 0] 42)) γ:=(Y.refl w γ).alloc _;have m:=(lJ t last L).keeps B R λ_ _ B=>B;have k:=K (Ck m id hid);have z0:=θ.new w 42 #[I E 0,H (D #[]),H (D #[]),H (D #[]),I E 0,I E 0];have an:=w.heap.size;clear B;unfold rq;cases z:L.find? λl=>l.2.id==id with
 |none=>
  rw[z] at k;clear z m;unfold ig at k;go_enter func47,ntmps47;go_wp2_with fail;refine k.out.mono ?_;rintro Q ae ⟨rfl,rfl⟩;clear k;generalize w.alloc (ζ #[I E 0,H (D #[]),H (D #[]),H (D #[]),I E 0,I E 0] 42)=p at*;generalize n:w.heap.size=a at*;have C:=z0.cell 0;have G:=z0.cell 1;have J:=z0.cell 2;have M:=z0.cell 3;have O:=z0.cell 4;have P:=z0.cell 5;have T:=z0.frozen 0;have V:=z0.frozen 1;have W:=z0.frozen 2;have X:=z0.frozen 3;have Z:=z0.frozen 4;have aa:=z0.frozen 5;simp at C G J M O P;have n:=K n;have kk:∀b c d e f g:ε,Y w ((((((p.setCell (U a 0 A) b).setCell (U a 1 A) c).setCell (U a 2 A) d).setCell (U a 3 A) e).setCell (U a 4 A) f).setCell (U a 5 A) g) γ:=λb c d e f g=>by have h:w.heap.size<=a:=Nat.le_of_eq n.out;exact(((((R.χ (.inr h) b).χ (.inr h) c).χ (.inr h) d).χ (.inr h) e).χ (.inr h) f).χ (.inr h) g
  have S:∀b c d e f g:ε,θ ((((((p.setCell (U a 0 A) b).setCell (U a 1 A) c).setCell (U a 2 A) d).setCell (U a 3 A) e).setCell (U a 4 A) f).setCell (U a 5 A) g) a 42 #[b,c,d,e,f,g]:=λb c d e f g=>((((((z0.χ 0 b).χ 1 c).χ 2 d).χ 3 e).χ 4 f).χ 5 g).to (by simp);go_wp2
  all_goals
   have i:=S (I E 0) (H (D #[])) (H (D #[])) (H (D #[])) (I E 0) (I E 0);have q:=i.cell 0;have r:=i.cell 1;have s:=i.cell 2;have u:=i.cell 3;have x:=i.cell 4;have y:=i.cell 5;simp at q r s u x y;exact Ω (v:=σ #[.agg #[I E 0,H (D #[]),H (D #[]),H (D #[]),I E 0,I E 0],ι false]) (by simp[ag,results47,go_sem,q,r,s,u,x,y]) rfl ⟨rfl,kk _ _ _ _ _ _⟩
 |some l=>
  have ac:l∈L:=rE z;rw[z] at k;obtain⟨ao,m⟩:=m;have o:=m.cells l ac;have ab:=m.lt;clear z m ab;obtain⟨ap,j⟩:=l;simp only at o;unfold ig at k;simp only[gx] at k;go_enter func47,ntmps47;go_wp2_with fail;refine k.out.mono ?_;rintro Q ae ⟨rfl,rfl⟩;clear k;generalize w.alloc (ζ #[I E 0,H (D #[]),H (D #[]),H (D #[]),I E 0,I E 0] 42)=p at*;generalize n:w.heap.size=a at*;have C:=z0.cell 0;have G:=z0.cell 1;have J:=z0.cell 2;have M:=z0.cell 3;have O:=z0.cell 4;have P:=z0.cell 5;have T:=z0.frozen 0;have V:=z0.frozen 1;have W:=z0.frozen 2;have X:=z0.frozen 3;have Z:=z0.frozen 4;have aa:=z0.frozen 5;have af:=o.cell 0;have ai:=o.cell 1;have aj:=o.cell 2;have ak:=o.cell 3;have al:=o.cell 4;have am:=o.cell 5;simp[υ.cells] at C G J M O P af ai aj ak al am;have n:=K n;have kk:∀b c d e f g:ε,Y w ((((((p.setCell (U a 0 A) b).setCell (U a 1 A) c).setCell (U a 2 A) d).setCell (U a 3 A) e).setCell (U a 4 A) f).setCell (U a 5 A) g) γ:=λb c d e f g=>by have h:w.heap.size<=a:=Nat.le_of_eq n.out;exact(((((R.χ (.inr h) b).χ (.inr h) c).χ (.inr h) d).χ (.inr h) e).χ (.inr h) f).χ (.inr h) g
  have S:∀b c d e f g:ε,θ ((((((p.setCell (U a 0 A) b).setCell (U a 1 A) c).setCell (U a 2 A) d).setCell (U a 3 A) e).setCell (U a 4 A) f).setCell (U a 5 A) g) a 42 #[b,c,d,e,f,g]:=λb c d e f g=>((((((z0.χ 0 b).χ 1 c).χ 2 d).χ 3 e).χ 4 f).χ 5 g).to (by simp);go_wp2
  all_goals
   have i:=S (I E j.id) (H j.ψ) (H j.ah) (H j.ax) (I E j.Δ) (I E j.aH);have q:=i.cell 0;have r:=i.cell 1;have s:=i.cell 2;have u:=i.cell 3;have x:=i.cell 4;have y:=i.cell 5;simp at q r s u x y;exact Ω (v:=σ #[.agg #[I E j.id,H j.ψ,H j.ah,H j.ax,I E j.Δ,I E j.aH],ι true]) (by simp[ag,results47,go_sem,q,r,s,u,x,y]) rfl ⟨rfl,kk _ _ _ _ _ _⟩
end
section
variable {w:Z} {t:Nat} {last:Int} {L:List (Nat×υ)} {F:Bs}
def nK(a:Option (Nat×υ)):Int:=((a.map (·.2)).getD υ.zero).id
theorem FU(c:fw w t last L F)(j:L.length<=1000)(d:Int):ν δ 96 #[π (N (U t 0 A)),I E d] w λg l=>g=ξ (σ #[I E (nK (L.find? λa=>dW a.2 d)),ι (L.find? λa=>dW a.2 d).isSome])/\Y w l γ:=by
 have b:=K (C8 c j d);cases e:L.find? λa=>dW a.2 d with
 |none=>rw[e] at b;clear c e;unfold pu ig at b;go_enter func96,ntmps96;go_wp2_with fail;refine b.out.mono ?_;rintro g m ⟨rfl,f⟩;go_wp2;all_goals exact Ω (v:=σ #[I E 0,ι false]) (by simp[ag,results96,go_sem]) rfl ⟨rfl,f⟩
 |some a=>have h:a∈L:=rE e;rw[e] at b;obtain⟨n,c⟩:=c;have k:=c.cells a h;clear c e h;unfold pu ig at b;simp only[gx] at b;go_enter func96,ntmps96;go_wp2_with fail;refine b.out.mono ?_;rintro g m ⟨rfl,f⟩;have i:=(f.blk k id).cell 0;simp[υ.cells] at i;go_wp2;all_goals exact Ω (v:=σ #[I E a.2.id,ι true]) (by simp[ag,results96,go_sem]) rfl ⟨rfl,f⟩
theorem agK:prog.underlying 104=N (.slice 3):=by kernel_rfl
theorem afi:(prog.info? 3).map (λa=>(a.zero,a.size,a.bytes))=N (N (I E 0),1,8):=by kernel_rfl
theorem U9{w:Z}(b:Nat){v:ε}{d:Nat}{h:List ε}(j:w.ownsRow b 3 1 v d h)(c:Int)(k:d<=1000000)(i:b<=w.heap.size):∃e f,(gJ #[104,104] 104 #[v,V (N (U w.heap.size 0 A)) 1 1]).run δ (w.alloc (ζ #[I E c] 3))= .ok e f/\f.ownsRow b 3 1 e (d+1) (h++[I E c])/\Y w f (λa=>v.ownBlock=N a)/\∀a,e.ownBlock=N a->v.ownBlock=N a\/w.heap.size<=a:=
 nA b 104 3 agK afi rfl (by decide) j [I E c] rfl (λl g=>by simp at g;subst g;rfl) (by unfold Χ;omega) (by omega) i
def sN(a:List (Nat×υ)):List ε:=a.map λb=> I E b.2.id
def KL(b:Z)(a:List (Nat×υ))(c:aI)(w:Z):Prop:=∃v,c=ξ v/\w.ownsRow b.heap.size 3 1 v a.length (sN a)/\Y b w γ
theorem Bg(d:fw w t last L F)(s:L.length<=1000)(e:BA):ν δ 46 #[π (N (U t 0 A)),H e] w (KL w (L.filter λc=>same c.2.ψ e)):=by
 have y:Y w (w.alloc (ζ #[H e] 9)) γ:=(Y.refl w γ).alloc _;have m:=(lJ t last L).keeps d y λ_ _ d=>d;have z:=K (Bv m s 76 #[π (N (U w.heap.size 0 A))] (enters_of func76 (by kernel_rfl) rfl) (λk=>same k.ψ e) (zS m λX a i k J=>abQ J w.heap.size e (by rw[(a.blk (θ.new w 9 #[H e]) λd=>d).cell];rfl)));obtain⟨aj,d⟩:=d;have u:=d.cells;have ae:(L.filter λc=>same c.2.ψ e).length<=1000:=aJ (jo _ _) s;have P:∀c∈L.filter λc=>same c.2.ψ e,θ w c.1 42 c.2.cells:=λc O=>u c (dE.1 O).1;clear m d u;generalize(L.filter λc=>same c.2.ψ e)=b at*;have ah:(b.length:Int)<=9223372036854775807:=by omega
 go_enter func46,ntmps46;go_wp2_with fail;refine z.out.mono ?_;rintro f l ⟨v,rfl,p,Q⟩;have r:Y w l γ:=y.trans Q Η;obtain⟨B,aa,rfl⟩:=eX p;go_wp2;go_loopw [5,7,12] (λS _ o wr=>∃(a:Nat),a<=b.length/\o=I E a/\wr.ownsRow l.heap.size 3 1 S a (sN (b.take a))/\Y l wr γ) (λ_ _ o _=>b.length-(aB o).toNat)
 case atStart=>exact⟨0,ai _,rfl,db _ _ _ _,Y.refl _ _⟩
 obtain⟨a,af,rfl,g,j⟩:=hrel;have q:Y w wr γ:=r.trans j Η;by_cases n:a<b.length
 .have M:(a:Int)<b.length:=by omega
  obtain⟨h,rfl⟩:∃h,B=N (U h 0 A):=by
   obtain⟨f,ag⟩|⟨i,ac,ad,f,_⟩:=p.2
   .omega
   .injection f with C;exact⟨i,C⟩
  have ao:wr.cell? (U h a A)=N (π (N ⟨b[a].1,0,A⟩)):=by
   have T:=aD p j λ_ _ d=>d;have:=T.cells (g:=h) rfl a (π (N ⟨b[a].1,0,A⟩)) (by simp[mJ,n]);have f:((⟨h,0,A⟩:Addr).add a)=⟨h,a,A⟩:=by unfold jm;by_cases G:a=0<;>simp[G]
   rw[f] at this;exact this
  have y0:=(q.blk (P _ (eA n)) λd=>d).cell 0;simp[υ.cells] at y0;have x:sN (b.take (a+1))=sN (b.take a)++[I E b[a].2.id]:=by unfold sN;rw[lq n,lP];rfl
  have TT:=K x;clear x;generalize b[a]=c at*;obtain⟨al,k⟩:=c;simp only at*;generalize hid:k.id=id at*;clear hid;obtain⟨am,an,W,V,R,ak⟩:=U9 l.heap.size g id (by omega) j.size;go_wp2_with (at_builtin;refine dy rfl (.tmp 16) (.tmp 21) 104 rfl rfl rfl W ?_);exact⟨⟨a+1,by omega,by go_num,by rw[TT.out];exact V,j.trans R λi f=> .inr (g.lt i f).1⟩,by simp[aB];omega⟩
 obtain rfl:a=b.length:=by omega
 have M:¬(b.length:Int)<b.length:=by omega
 rw[pd] at g;obtain⟨Z,ab,rfl⟩:=eX g;have g:=K g;go_wp2;all_goals(go_ret;exact⟨_,rfl,wU g.out r.size,q⟩)
def bY(L:List (Nat×υ))(id:Int):List (Nat×υ):=L.filter λa=> !(a.2.id==id)
theorem aaK(L:List (Nat×υ))(id:Int):look (bY L id)=put (look L) id A:=by
 funext x;by_cases a:x=id
 .subst a;rw[dJ,aaM];intro c d;simpa[bY] using(dE.1 d).2
 rw[dI _ _ _ _ a];unfold look bY;rw[List.find?_filter]
 congr 2
 funext c;by_cases b:c.2.id=x
 .subst b;simp[a]
 simp[b]
theorem gP.Hw{f:Nat}{w g:Z}(b:gP w t f last L F)(id:Int)(k:aC cM g f (put (look L) id A) L.length)(d:Y w g (·=f)):∃j,gP g t f last (bY L id) j/\Ψ w g F j:=by
 have e:∀a∈bY L id,a∈L:=λa c=>(dE.1 c).1;refine⟨λd=>d=t\/d=f\/∃a∈bY L id,a.1=d,⟨d.blk b.blk b.ne,?_,λa c=>d.blk (b.cells a (e a c)) (b.apart a (e a c)).2,b.dM.filter _,?_,λa c=>b.bj a (e a c),b.bP,b.ne,λa c=>b.apart a (e a c),λ_=>Iff.rfl⟩,⟨d.mono λh l=> .inl ((b.ak h).2 (.inr (.inl l))),λh i=> .inl ((b.ak h).2 ?_)⟩⟩
 .rw[<-aaK] at k;refine k.tight fI ((bY L id).map (·.2.id)) (λh _ i=> ?_) |>.mono (by simp);obtain⟨a,c,rfl⟩:=Pd i;exact eO.2 ⟨a,c,rfl⟩
 .exact(List.filter_sublist.map _).nodup b.nodup
 obtain rfl|rfl|⟨a,c,rfl⟩:=i
 .exact .inl rfl
 .exact .inr (.inl rfl)
 exact .inr (.inr ⟨a,e a c,rfl⟩)
theorem Tj(a:fw w t last L F)(id:Int)(hid:aF id)(e:(L.find? λd=>d.2.id==id).isSome=true):ν δ 104 #[π (N (U t 0 A)),I E id] w λg h=>g=ξ (I E 0)/\∃b,fw h t last (bY L id) b/\Ψ w h F b:=by
 have c:=K (Ck a id hid);cases f:L.find? λd=>d.2.id==id with
 |none=>rw[f] at e;cases e
 |some d=>
  rw[f] at c;obtain⟨n,a⟩:=a;have i:=a.blk.cell 0;simp at i;obtain⟨q,o,m,l⟩:=a.map.drop fI (t:=119) (e:=155) vd (x:=id) hid 0;simp only[cM] at o;clear f e;unfold ig at c;simp only[gx] at c;go_enter func104,ntmps104;go_wp2_with fail;refine c.out.mono ?_;rintro g p ⟨rfl,rfl⟩;go_wp2
  all_goals
   obtain⟨b,j,k⟩:=a.Hw id m l;go_ret;exact⟨rfl,b,⟨n,j⟩,k⟩
end
def ee(L:List (Nat×υ))(id:Int)(b:υ->υ):List (Nat×υ):=L.map λa=>if a.2.id==id then(a.1,b a.2) else a
section
variable {w:Z} {t:Nat} {last:Int} {L:List (Nat×υ)} {F:Bs}
theorem CZ{id:Int}{b:υ->υ}{c:Nat×υ}(e:c∈ee L id b):∃a∈L,c=(if a.2.id==id then(a.1,b a.2) else a):=by obtain⟨a,f,d⟩:=eO.1 e;exact⟨a,f,d.symm⟩
theorem QO(L:List (Nat×υ))(id:Int)(a:υ->υ):(ee L id a).map (·.1)=L.map (·.1):=by unfold ee;rw[tM];apply List.map_congr_left;intro b _;simp only[Function.comp];split<;>rfl
theorem ae2(L:List (Nat×υ))(id:Int)(a:υ->υ)(c:∀b,(a b).id=b.id):(ee L id a).map (·.2.id)=L.map (·.2.id):=by
 unfold ee;rw[tM];apply List.map_congr_left;intro d _;simp only[Function.comp];split
 .exact c _
 rfl
theorem aaN(L:List (Nat×υ))(id:Int)(b:υ->υ)(e:∀c,(b c).id=c.id):look (ee L id b)=look L:=by
 funext x;unfold look ee;rw[List.find?_map];simp only[Function.comp_def]
 have d:(λa:Nat×υ=>(if(a.2.id==id)=true then(a.1,b a.2) else a).2.id==x)=λa=>a.2.id==x:=by
  funext a;split
  .rw[e]
  rfl
 rw[d];cases L.find? λa=>a.2.id==x with
 |none=>rfl
 |some a=>simp only[gx];split<;>rfl
theorem ag4{L:List (Nat×υ)}(d:L.Pairwise λe f=>e.2.id<f.2.id){a b:Nat×υ}(i:a∈L)(j:b∈L)(g:a.2.id=b.2.id):a=b:=by have c:=qR d i;have h:=qR d j;rw[g,h] at c;exact(cr c).symm
theorem ag5{L:List (Nat×υ)}(e:(L.map (·.1)).Nodup){a b:Nat×υ}(f:a∈L)(i:b∈L)(c:a.1=b.1):a=b:=by
 induction L with
 |nil=>cases f
 |cons k L j=>
  rw[lm] at e;obtain⟨d,h⟩:=List.nodup_cons.1 e;rcases dD.1 f with rfl|g<;>obtain rfl|hq':=dD.1 i
  .rfl
  .exact ahN (eO.2 ⟨b,hq',c.symm⟩) d
  .exact ahN (eO.2 ⟨a,g,c⟩) d
  exact j h g hq'
theorem gP.GN{s:Nat}{o:Z}(a:gP w t s last L F){c:Nat×υ}(m:c∈L)(f:υ->υ)(p:∀u,(f u).id=u.id)(y:θ o c.1 42 (f c.2).cells)(n:Y w o (·=c.1)):gP o t s last (ee L c.2.id f) F/\Ψ w o F F:=by
 have r:=a.apart c m;refine⟨⟨n.blk a.blk (λb=>r.1 b.symm),?_,λd e=> ?_,?_,by rw[QO];exact a.nodup,λd e=> ?_,a.bP,a.ne,λd e=> ?_,λj=> ?_⟩,⟨n.mono λj b=> .inl ((a.ak j).2 (.inr (.inr ⟨c,m,b.symm⟩))),λ_ a=> .inl a⟩⟩
 .have:=a.map.keeps n (λb=>r.2 b.symm);rw[aaN _ _ _ p];simpa[ee] using this
 .obtain⟨i,g,rfl⟩:=CZ e;by_cases b:i.2.id=c.2.id
  .obtain rfl:=ag4 a.dM g m b;simpa using y
  rw[WB (by simpa using b)];exact n.blk (a.cells i g) λx=>b (by rw[ag5 a.nodup g m x])
 .have k:=a.dM;have h:(L.map (·.2.id)).Pairwise (·<·):=Fa.2 k;rw[<-ae2 L c.2.id f p] at h;exact Fa.1 h
 .obtain⟨i,g,rfl⟩:=CZ e;have:=a.bj i g;split
  .simpa[p] using this
  exact this
 .obtain⟨i,g,rfl⟩:=CZ e;have:=a.apart i g;split<;>exact this
 rw[a.ak]
 have b:(∃d∈ee L c.2.id f,d.1=j)↔∃d∈L,d.1=j:=by
  have:=QO L c.2.id f;constructor
  .rintro⟨d,e,b⟩;have l:j∈(ee L c.2.id f).map (·.1):=eO.2 ⟨d,e,b⟩;rw[this] at l;obtain⟨q,k,h⟩:=eO.1 l;exact⟨q,k,h⟩
  rintro⟨d,e,b⟩;have l:j∈L.map (·.1):=eO.2 ⟨d,e,b⟩;rw[<-this] at l;obtain⟨q,k,h⟩:=eO.1 l;exact⟨q,k,h⟩
 rw[b]
theorem Tp(a:fw w t last L F)(C:L.length<=1000){p:Nat×υ}(c:p∈L)(b:BA)(y:p.2.ax.toList.isEmpty=true)(z:p.2.Δ≠ -1)(k:∀h∈L,mR h.2 b=false)(B:b.toList.isEmpty=false):ν δ 254 #[π (N (U t 0 A)),I E p.2.id,H b] w λe q=>e=ξ (I E 0)/\fw q t last (ee L p.2.id λi=> {i with ax:=b}) F/\Ψ w q F F:=by
 have f:=K (RJ a C b);rw[lM.2 (λh J=>by simp[k h J])] at f;obtain⟨o,a⟩:=a;have hid:=a.bj p c;have G:=a.bP;have d:=K (Ck (w:=w) ⟨o,a⟩ p.2.id ⟨by omega,by omega⟩);rw[qR a.dM c] at d;have l:=a.cells p c;have r:=l.cell 3;simp[υ.cells] at r;have S:=K (zP l);rw[ahO z] at S;unfold pu ig at f;unfold ig at d;simp only[gx] at d;have O:p.2.ax.toList=[]:=by simpa using y
 have P:(!b.toList.isEmpty)=true:=by rw[B];rfl
 clear hid G k;go_enter func254,ntmps254;go_wp2_with fail;refine d.out.mono ?_;rintro e j ⟨rfl,rfl⟩;go_wp2_with fail;refine S.out.mono ?_;rintro e j ⟨rfl,rfl⟩;go_wp2_with fail;refine f.out.mono ?_;rintro e j ⟨rfl,n⟩;have m:=a.keeps n λ_ _ a=>a;have g:=m.cells p c;have s:=g.cell 3;simp[υ.cells] at s;have M:=g.frozen 3;go_wp2
 all_goals
  obtain⟨u,x⟩:=m.GN c (λi=> {i with ax:=b}) (λ_=>rfl) ((g.χ 3 (H b)).to (by simp[υ.cells])) ((Y.refl j (·=p.1)).χ (p:=⟨p.1,3,A⟩) (.inl rfl) _);go_ret;exact⟨rfl,⟨o,u⟩,(Ψ.bu n F).trans x⟩
theorem TH(b:fw w t last L F){a:Nat×υ}(d:a∈L)(Ι:Int)(z:a.2.ax.toList.isEmpty=false)(p:a.2.Δ≠ -1)(C:0<=Ι/\Ι<=1000000000):ν δ 106 #[π (N (U t 0 A)),I E a.2.id,I E Ι] w λf i=>f=ξ (σ #[ι true,I E 0])/\fw i t last (ee L a.2.id λg=> {g with Δ:= -1,aH:=Ι+20}) F/\Ψ w i F F:=by
 obtain⟨h,b⟩:=b;have hid:=b.bj a d;have q:=b.bP;have e:=K (Ck (w:=w) ⟨h,b⟩ a.2.id ⟨by omega,by omega⟩);rw[qR b.dM d] at e;have c:=b.cells a d;have j:=c.cell 3;have k:=c.cell 4;have l:=c.cell 5;simp[υ.cells] at j k l;have x:=c.frozen 4;have y:=c.frozen 5;have m:=b.blk.cell 3;simp at m;have S:=K (zP c);rw[ahO p] at S;unfold ig at e;simp only[gx] at e;have B:=b.apart a d;have s:¬Ι<0:=by omega
 have u:¬(1099511627776:Int)<Ι:=by omega
 clear hid q;go_enter func106,ntmps106;go_wp2_with fail;refine e.out.mono ?_;rintro f r ⟨rfl,rfl⟩;go_wp2_with fail;refine S.out.mono ?_;rintro f r ⟨rfl,rfl⟩;go_wp2
 all_goals
  obtain⟨n,o⟩:=b.GN d (λg=> {g with Δ:= -1,aH:=Ι+20}) (λ_=>rfl) (((c.χ 4 (I E (-1))).χ 5 (I E (Ι+20))).to (by simp[υ.cells])) (((Y.refl w (·=a.1)).χ (p:=⟨a.1,4,A⟩) (.inl rfl) _).χ (p:=⟨a.1,5,A⟩) (.inl rfl) _);exact Ω (v:=σ #[ι true,I E 0]) (by simp[ag,results106,go_sem]) rfl ⟨rfl,⟨h,n⟩,o⟩
theorem Ue(b:fw w t last L F)(o:L.length<=1000){a:Nat×υ}(i:a∈L)(m:BA)(Δ Ι:Int)(n:L.find? (λd=>mR d.2 m)=N a)(G:mF a.2 Ι=false)(J:∀d∈L,dW d.2 Δ=false)(X:0<=Δ)(Z:0<=Ι/\Ι<=1000000000):ν δ 165 #[π (N (U t 0 A)),H m,I E Δ,I E Ι] w λf s=>f=ξ (σ #[I E a.2.id,I E a.2.Δ,I E 0])/\fw s t last (ee L a.2.id λl=> {l with Δ:=Δ,aH:=0}) F/\Ψ w s F F:=by
 have e:=K (RJ b o m);rw[n] at e;unfold pu ig at e;simp only[gx] at e;obtain⟨r,b⟩:=b;have Q:¬Δ<0:=by omega
 have R:¬Ι<0:=by omega
 have T:¬(1099511627776:Int)<Ι:=by omega
 clear n;go_enter func165,ntmps165;go_wp2_with fail;refine e.out.mono ?_;rintro f O ⟨rfl,j⟩;have g:=b.keeps j λ_ _ b=>b;have p:=g.cells a i;have S:=K (Oy p Ι);rw[G] at S;go_wp2_with fail;refine S.out.mono ?_;rintro f aa ⟨rfl,rfl⟩;have h:=K (C8 (w:=O) ⟨r,g⟩ o Δ);rw[lM.2 (λd M=>by simp[J d M])] at h;unfold pu ig at h;go_wp2_with fail;refine h.out.mono ?_;rintro f P ⟨rfl,k⟩;have q:=g.keeps k λ_ _ b=>b;have c:=q.cells a i;have x:=c.cell 0;have y:=c.cell 4;have z:=c.cell 5;simp[υ.cells] at x y z;have V:=c.frozen 4;have W:=c.frozen 5;have u:=K ((Ψ.bu j F).still k);clear g p j k b;go_wp2
 all_goals
  obtain⟨B,C⟩:=q.GN i (λl=> {l with Δ:=Δ,aH:=0}) (λ_=>rfl) (((c.χ 4 (I E Δ)).χ 5 (I E 0)).to (by simp[υ.cells])) (((Y.refl P (·=a.1)).χ (p:=⟨a.1,4,A⟩) (.inl rfl) _).χ (p:=⟨a.1,5,A⟩) (.inl rfl) _);exact Ω (v:=σ #[I E a.2.id,I E a.2.Δ,I E 0]) (by simp[ag,results165,go_sem]) rfl ⟨rfl,⟨r,B⟩,u.out.trans C⟩
end
section
open Go.Sort
theorem abj(a:Z)(d:Int):ν δ 80 #[I E d] a λb c=>b=ξ (ι false)/\c=a:=by go_enter func80,ntmps80;go_wp2;all_goals(go_ret;exact⟨rfl,rfl⟩)
def ly(a b:Int):Int:=if a<b then -1 else if b<a then 1 else 0
theorem Mk(c:Z)(a d:Int):ν δ 50 #[I E a,I E d] c λb f=>b=ξ (I E (ly a d))/\f=c:=by
 have e:=K λa=>abj c a;unfold ly;go_enter func50,ntmps50;go_wp2_with fail;refine(e.out a).mono ?_;rintro b g ⟨rfl,rfl⟩;go_wp2_with fail;refine(e.out d).mono ?_;rintro b g ⟨rfl,rfl⟩;go_wp2;all_goals go_ret
 all_goals simp_all
theorem abZ(c:Z)(a d:Int)(e:Nat)(f:θ c e 3 #[I E a,I E d]):ν δ 184 #[V (N (U e 0 A)) 2 2] c λj l=>j=ξ (I E (if a=0 then d else a))/\l=c:=by
 have h:=f.cell 0;have i:=f.cell 1;simp at h i;go_enter func184,ntmps184;go_wp2;go_loopw [5,8] (λ_ b wr=>wr=c/\(b=I E 0\/(b=I E 1/\a=0)\/(b=I E 2/\a=0/\d=0))) (λ_ b _=>2-(aB b).toNat)
 case atStart=>exact⟨rfl,.inl rfl⟩
 obtain⟨rfl,hrel⟩:=hrel;obtain rfl|⟨rfl,rfl⟩|⟨rfl,rfl,rfl⟩:=hrel
 .by_cases g:a=0
  .subst g;go_wp2;refine⟨⟨by simp,.inr (.inl ⟨by simp,by simp⟩)⟩,by simp[aB]⟩
  go_wp2;all_goals(go_ret;exact⟨by simp[g],rfl⟩)
 .by_cases k:d=0
  .subst k;go_wp2;refine⟨⟨by simp,.inr (.inr ⟨by simp,by simp,by simp⟩)⟩,by simp[aB]⟩
  go_wp2;all_goals(go_ret;exact⟨by simp,rfl⟩)
 go_wp2;all_goals(go_ret;exact⟨by simp,rfl⟩)
def uD(a b:υ):Int:=if ly a.aH b.aH=0 then ly a.id b.id else ly a.aH b.aH
variable{w:Z}{x:ε}{y k d:Nat}{m:Int}{j:Bs}{q:Array ε}{r:List (Nat×υ)}{u:aQ}
theorem MS(c:Z){a b:υ}(f:θ c y 42 a.cells)(g:θ c k 42 b.cells):ν δ 111 #[π (N (U y 0 A)),π (N (U k 0 A))] c λe r=>e=ξ (I E (uD a b))/\∃q p,r=grow (c.drewN q) p:=by
 have l:=f.cell 0;have m:=f.cell 5;have n:=g.cell 0;have o:=g.cell 5;simp[υ.cells] at l m n o;have i:=K Mk;have d:=λj h=>abZ j (ly a.aH b.aH) (ly a.id b.id) h;unfold uD;generalize(if ly a.aH b.aH=0 then ly a.id b.id else ly a.aH b.aH)=t at*;clear f g;obtain⟨z,C,w,B,u,x⟩:=a;obtain⟨J,M,G,L,F,H⟩:=b;simp only at*;have d:=K d;go_enter func111,ntmps111;go_wp2_with fail
 go_region_with (first
  |(go_at_call 50;refine(i.out _ _ _).mono ?_;rintro e s ⟨rfl,rfl⟩)
  |(go_at_call 184;refine(d.out _ _ (by first|exact(θ.new _ _ _).drew|exact θ.new _ _ _)).mono ?_;rintro e s ⟨rfl,rfl⟩))
 all_goals go_wp2
 all_goals(go_ret;exact⟨rfl,1,#[_],rfl⟩)
end
section
open Go.Sort Go.Shelf
variable{w:Z}{x:ε}{y k d:Nat}{m:Int}{j:Bs}{q:Array ε}{r:List (Nat×υ)}{u:aQ}
theorem θ.setCells   :∀(e:List ε) (b:Nat) {a:Z} {c:Array ε},θ a y u c->∃f,θ (a.setCells y b e) y u f/\f.size=c.size/\(∀d,d<b->f[d]? =c[d]?)/\Y a (a.setCells y b e) (·=y)
 |[],_,a,c,g=>⟨c,g,rfl,λ_ _=>rfl,Y.refl a _⟩
 |v::e,b,a,c,g=>by obtain⟨h,j,m,k,l⟩:=θ.setCells e (b+1) (g.χ b v);refine⟨h,j,by simpa using m,λd n=> ?_,((Y.refl a (·=y)).χ (p:=(U y b A)) (.inl rfl) v).trans l λ_ i=> .inl i⟩;rw[k d (by omega),tA (by omega)]
def Li(k:Z)(b i d:Nat)(j:aQ)(g:ε->Prop)(h:aI)(f:Z):Prop:=∃(c:Nat) (a:Array ε),h=ξ (V (N (U b 0 A)) c d)/\c<=i/\θ f b j a/\a.size=d/\(∀e,e<c->∃v,a[e]? =N v/\g v)/\Y k f (·=b)
theorem agV:prog.underlying 153=N (.slice 155):=by kernel_rfl
theorem ahK:∀a:Z,nW δ (zeroValue 155) a= .ok (π A) a:=λ_=>by kernel_rfl
theorem WZ{h:ε->Prop}(p:θ w y 155 q)(t:q.size=d)(aJ:k<=d)(aF:d<=9223372036854775807)(n:∀a,a<k->∃v,q[a]? =N v/\h v)(al:∀v,h v->∃g:Nat,v=π (N (U g 0 A)))(C:ε->Bool)(o:Nat)(M:Array ε)(ag:∀args w,(callFunc o args).run δ w= .ok (.enter o args) w)(B:∀F,Y w F (·=y)->∀v,h v->ν δ o (#[v]++M) F λi ay=>i=ξ (ι (C v))/\∃S,ay=F.drewN S):ν δ 298 #[V (N (U y 0 A)) k d,af (.func o) #[] M] w (Li w y k d 155 h):=by
 by_cases ai:k=0
 .subst ai;have c:=AnyE.slices_IndexFunc_empty (ρ:=Jj) {QW with} (N (U y 0 A)) d (af (.func o) #[] M) w;change ν δ 355 _ _ _ at c;have c:=K c;go_enter func298,ntmps298;go_wp2_with fail;refine c.out.mono ?_;rintro i ad ⟨rfl,rfl⟩;go_wp2;all_goals(go_ret;exact⟨0,q,rfl,Ο _,p,t,nofun,Y.refl _ _⟩)
 obtain⟨ax,_,aa⟩:=n 0 (by omega)
 haveI:Inhabited {v // h v} :=⟨⟨ax,aa⟩⟩
 have ar:∃m:List {v // h v},m.length=k/\∀a (l:a<m.length),q[a]? =N m[a].1:=by refine⟨(List.finRange k).map λa=>⟨(n a.1 a.2).choose,(n a.1 a.2).choose_spec.2⟩,by simp,λa l=> ?_⟩;simp only[dN,List.length_finRange] at l;simpa using(n a l).choose_spec.1
 obtain⟨m,au,ab⟩:=ar;have c:=AnyE.slices_IndexFunc (ρ:=Jj) {QW with} (λg: {v // h v} =>g.1) (λg=>C g.1) o M ag y 0 k d m w (λF g aj=>B F (Y.of_below aj _) g.1 g.2) (by omega) (by omega) (λa l=>by rw[p.cell,eP,ab a l,getElem!_pos m a l]);change ν δ 355 _ _ _ at c;rw[show m.take k=m from mo (by omega)] at c;have X:=idxByFrom_spec (λ_ s: {v // h v} =>C s.1) default m 0;change (Lib.idxBy (λ_ s: {v // h v} =>C s.1) m default= -1/\_)\/∃x,_/\Lib.idxBy (λ_ s: {v // h v} =>C s.1) m default=_/\_ at X;have p:=K p;have t:=K t;have n:=K n;have B:=K B;clear ab aa;obtain⟨G,_⟩|⟨x,am,G,_⟩:=X
 .rw[G] at c;have c:=K c;clear G;go_enter func298,ntmps298;go_wp2_with fail;refine c.out.mono ?_;rintro i ad ⟨rfl,S,rfl⟩;go_wp2;all_goals(go_ret;exact⟨k,q,rfl,Ο _,p.out.drewN _,t.out,n.out,(Y.refl _ _).drewN _⟩)
 rw[G] at c;have aH:x<k:=by omega
 have aI:(x:Int)<k:=by omega
 clear G am au;rw[eP] at c;have c:=K c;have an:¬((x:Int)= -1):=by omega
 go_enter func298,ntmps298;go_wp2_with fail;refine c.out.mono ?_;rintro i ad ⟨rfl,S,rfl⟩;go_wp2;clear an;generalize(((x:Nat):Int)== -1)=kb;go_loopw [5,6,7] (λav a _ wr=>∃(b e:Nat) (z:Array ε),av=I E b/\a=I E e/\b<e/\e<=k/\θ wr y 155 z/\z.size=d/\(∀a,a<k->∃v,z[a]? =N v/\h v)/\Y w wr (·=y)) (λ_ a _ _=>k-(aB a).toNat)
 case atStart=>exact⟨x,x+1,q,rfl,by go_num,by omega,by omega,p.out.drewN _,t.out,n.out,(Y.refl _ _).drewN _⟩
 obtain⟨b,e,z,rfl,rfl,aD,aE,f,u,j,r⟩:=hrel;by_cases ao:e<k
 .have ap:(e:Int)<k:=by omega
  obtain⟨v,hv,H⟩:=j e ao;obtain⟨g,rfl⟩:=al v H;have aA:wr.cell? (U y e A)=N (π (N (U g 0 A))):=by rw[f.cell,hv]
  have aC:=f.frozen b;obtain⟨J,L⟩:∃J,wr.cell? (U y b A)=N J:=by obtain⟨J,L,_⟩:=j b (by omega);exact⟨J,by rw[f.cell,L]⟩
  have O:=K (B.out wr r _ H);have f:=K f;have u:=K u;have j:=K j;have r:=K r;have H:=K H;clear hv c p t n B;generalize C (π (N (U g 0 A)))=pv at O;cases pv with
  |true=>
   go_wp2_with (first|(go_at_fn o;refine O.out.mono ?_;rintro i az ⟨rfl,aw,rfl⟩));go_roundw
   case rel=>exact⟨b,e+1,z,rfl,by go_num,by omega,by omega,f.out.drewN _,u.out,j.out,r.out.drewN _⟩
   case measure=>simp[aB];omega
  |false=>
   go_wp2_with (first|(go_at_fn o;refine O.out.mono ?_;rintro i az ⟨rfl,aw,rfl⟩));go_roundw
   case measure=>simp[aB];omega
   refine⟨b+1,e+1,z.setIfInBounds b (π (N (U g 0 A))),by go_num,by go_num,by omega,by omega,(f.out.drewN _).χ b _,by simpa using u.out,λa l=> ?_,(r.out.drewN _).χ (p:=(U y b A)) (.inl rfl) _⟩;by_cases i:a=b
   .subst i;obtain⟨s,Q,_⟩:=j.out a l;exact⟨_,by rw[Array.getElem?_setIfInBounds_self_of_lt (Ah.1 Q).1],H.out⟩
   obtain⟨s,Q,ak⟩:=j.out a l;exact⟨s,by rw[tA (λah=>i ah.symm)];exact Q,ak⟩
 obtain rfl:e=k:=by omega
 have ap:¬(e:Int)<e:=by omega
 have aG:∀W,(JE #[153] W #[V (N (U y b A)) (e-b) (d-b)]).run δ wr= .ok (σ #[]) (wr.setCells y b (qz (e-b) (π A))):=
  λW=>Lib.run_clear_slice wr _ _ W _ agV ahK rfl rfl y b _ _ (by omega) (λac aq=>by obtain⟨J,L,_⟩:=j (b+ac) (by omega);rw[f.cell,L];rfl) (λac aq=>f.frozen _)
 obtain⟨ae,P,T,j3,R⟩:=θ.setCells (qz (e-b) (π A)) b f;have P:=K P;have T:=K T;have j3:=K j3;have R:=K R;have f:=K f;have u:=K u;have j:=K j;have r:=K r;clear c p t n B;go_wp2;all_goals(go_ret;exact⟨b,ae,rfl,by omega,P.out,by rw[T.out];exact u.out,λa l=>by rw[j3.out a l];exact j.out a (by omega),r.out.trans R.out λ_ i=> .inl i⟩)
theorem agU:prog.underlying 104=N (.slice 3):=by kernel_rfl
theorem ahJ:∀a:Z,nW δ (zeroValue 3) a= .ok (I E 0) a:=λ_=>by kernel_rfl
theorem WX{P:ε->Prop}(o:θ w y 3 q)(s:q.size=d)(aJ:k<=d)(aF:d<=9223372036854775807)(m:∀a,a<k->∃v,q[a]? =N v/\P v)(al:∀v,P v->∃g:Int,v=I E g)(B:ε->Bool)(n:Nat)(L:Array ε)(ag:∀args w,(callFunc n args).run δ w= .ok (.enter n args) w)(z:∀C,Y w C (·=y)->∀v,P v->ν δ n (#[v]++L) C λh ay=>h=ξ (ι (B v))/\∃S,ay=C.drewN S):ν δ 323 #[V (N (U y 0 A)) k d,af (.func n) #[] L] w (Li w y k d 3 P):=by
 by_cases ai:k=0
 .subst ai;have c:=AnyE.slices_IndexFunc_empty (ρ:=Ji) {QV with} (N (U y 0 A)) d (af (.func n) #[] L) w;change ν δ 367 _ _ _ at c;have c:=K c;go_enter func323,ntmps323;go_wp2_with fail;refine c.out.mono ?_;rintro h ad ⟨rfl,rfl⟩;go_wp2;all_goals(go_ret;exact⟨0,q,rfl,Ο _,o,s,nofun,Y.refl _ _⟩)
 obtain⟨ax,_,aa⟩:=m 0 (by omega)
 haveI:Inhabited {v // P v} :=⟨⟨ax,aa⟩⟩
 have ar:∃l:List {v // P v},l.length=k/\∀a (j:a<l.length),q[a]? =N l[a].1:=by refine⟨(List.finRange k).map λa=>⟨(m a.1 a.2).choose,(m a.1 a.2).choose_spec.2⟩,by simp,λa j=> ?_⟩;simp only[dN,List.length_finRange] at j;simpa using(m a j).choose_spec.1
 obtain⟨l,au,ab⟩:=ar;have c:=AnyE.slices_IndexFunc (ρ:=Ji) {QV with} (λg: {v // P v} =>g.1) (λg=>B g.1) n L ag y 0 k d l w (λC g aj=>z C (Y.of_below aj _) g.1 g.2) (by omega) (by omega) (λa j=>by rw[o.cell,eP,ab a j,getElem!_pos l a j]);change ν δ 367 _ _ _ at c;rw[show l.take k=l from mo (by omega)] at c;have X:=idxByFrom_spec (λ_ r: {v // P v} =>B r.1) default l 0;change (Lib.idxBy (λ_ r: {v // P v} =>B r.1) l default= -1/\_)\/∃u,_/\Lib.idxBy (λ_ r: {v // P v} =>B r.1) l default=_/\_ at X;have o:=K o;have s:=K s;have m:=K m;have z:=K z;clear ab aa;obtain⟨F,_⟩|⟨u,am,F,_⟩:=X
 .rw[F] at c;have c:=K c;clear F;go_enter func323,ntmps323;go_wp2_with fail;refine c.out.mono ?_;rintro h ad ⟨rfl,S,rfl⟩;go_wp2;all_goals(go_ret;exact⟨k,q,rfl,Ο _,o.out.drewN _,s.out,m.out,(Y.refl _ _).drewN _⟩)
 rw[F] at c;have aH:u<k:=by omega
 have aI:(u:Int)<k:=by omega
 clear F am au;rw[eP] at c;have c:=K c;have an:¬((u:Int)= -1):=by omega
 go_enter func323,ntmps323;go_wp2_with fail;refine c.out.mono ?_;rintro h ad ⟨rfl,S,rfl⟩;go_wp2;clear an;generalize(((u:Nat):Int)== -1)=kb;go_loopw [5,6,7] (λav a _ wr=>∃(b e:Nat) (x:Array ε),av=I E b/\a=I E e/\b<e/\e<=k/\θ wr y 3 x/\x.size=d/\(∀a,a<k->∃v,x[a]? =N v/\P v)/\Y w wr (·=y)) (λ_ a _ _=>k-(aB a).toNat)
 case atStart=>exact⟨u,u+1,q,rfl,by go_num,by omega,by omega,o.out.drewN _,s.out,m.out,(Y.refl _ _).drewN _⟩
 obtain⟨b,e,x,rfl,rfl,aD,aE,f,t,i,p⟩:=hrel;by_cases ao:e<k
 .have ap:(e:Int)<k:=by omega
  obtain⟨v,hv,G⟩:=i e ao;obtain⟨g,rfl⟩:=al v G;have aA:wr.cell? (U y e A)=N (I E g):=by rw[f.cell,hv]
  have aC:=f.frozen b;obtain⟨H,J⟩:∃H,wr.cell? (U y b A)=N H:=by obtain⟨H,J,_⟩:=i b (by omega);exact⟨H,by rw[f.cell,J]⟩
  have M:=K (z.out wr p _ G);have f:=K f;have t:=K t;have i:=K i;have p:=K p;have G:=K G;clear hv c o s m z;generalize B (I E g)=pv at M;cases pv with
  |true=>
   go_wp2_with (first|(go_at_fn n;refine M.out.mono ?_;rintro h az ⟨rfl,aw,rfl⟩));go_roundw
   case rel=>exact⟨b,e+1,x,rfl,by go_num,by omega,by omega,f.out.drewN _,t.out,i.out,p.out.drewN _⟩
   case measure=>simp[aB];omega
  |false=>
   go_wp2_with (first|(go_at_fn n;refine M.out.mono ?_;rintro h az ⟨rfl,aw,rfl⟩));go_roundw
   case measure=>simp[aB];omega
   refine⟨b+1,e+1,x.setIfInBounds b (I E g),by go_num,by go_num,by omega,by omega,(f.out.drewN _).χ b _,by simpa using t.out,λa j=> ?_,(p.out.drewN _).χ (p:=(U y b A)) (.inl rfl) _⟩;by_cases h:a=b
   .subst h;obtain⟨r,Q,_⟩:=i.out a j;exact⟨_,by rw[Array.getElem?_setIfInBounds_self_of_lt (Ah.1 Q).1],G.out⟩
   obtain⟨r,Q,ak⟩:=i.out a j;exact⟨r,by rw[tA (λah=>h ah.symm)];exact Q,ak⟩
 obtain rfl:e=k:=by omega
 have ap:¬(e:Int)<e:=by omega
 have aG:∀W,(JE #[104] W #[V (N (U y b A)) (e-b) (d-b)]).run δ wr= .ok (σ #[]) (wr.setCells y b (qz (e-b) (I E 0))):=
  λW=>Lib.run_clear_slice wr _ _ W _ agU ahJ rfl rfl y b _ _ (by omega) (λac aq=>by obtain⟨H,J,_⟩:=i (b+ac) (by omega);rw[f.cell,J];rfl) (λac aq=>f.frozen _)
 obtain⟨ae,O,T,j3,R⟩:=θ.setCells (qz (e-b) (I E 0)) b f;have O:=K O;have T:=K T;have j3:=K j3;have R:=K R;have f:=K f;have t:=K t;have i:=K i;have p:=K p;clear c o s m z;go_wp2;all_goals(go_ret;exact⟨b,ae,rfl,by omega,O.out,by rw[T.out];exact t.out,λa j=>by rw[j3.out a j];exact i.out a (by omega),p.out.trans R.out λ_ h=> .inl h⟩)
end
section
open Go.Sort Go.Shelf
def afq:Go.Shelf.Ren:=⟨fun|41=>299|a=>a,fun|22=>153|23=>155|4=>4|a=>a,fun|a=>a⟩
theorem afp:Go.Proofs.SlLaysE0.n41 δ afq:=by constructor<;>first|kernel_rfl|exact jg ⟨by decide+kernel,by kernel_rfl⟩|(intros;kernel_rfl)
def afy:Go.Shelf.Ren:=⟨fun|12=>301|a=>a,fun|28=>153|29=>155|33=>188|3=>3|4=>4|9=>9|20=>20|0=>0|32=>42|a=>a,fun|a=>a⟩
theorem afx:Go.Proofs.SlLaysG3.n12 δ afy:=by constructor<;>first|kernel_rfl|exact jg ⟨by decide+kernel,by kernel_rfl⟩|(intros;kernel_rfl)
variable{w:Z}{x:ε}{y k d:Nat}{m:Int}{j:Bs}{q:Array ε}{r:List (Nat×υ)}{u:aQ}
theorem Oi(c:Array Obj)(a:Bs):Y w (grow w c) a:=⟨rfl,rfl,rfl,by simp[grow],λd b _=>heap_grow_old _ _ b⟩
theorem wL{b:Type}[Inhabited b]{enc:b->ε}{w:Z}{g q:Nat}{d:Array b}{os:Array Obj}:Y w (sortWorld enc w g 0 q d os) (·=g):=by unfold sortWorld;refine((Oj (enc:=enc) (w:=w) (g:=g) (q:=q) (d:=d)).mono λc a=> .inl (cr a).symm).trans (Oi os (·=g)) λ_ a=> .inl a
def yA(a:List (Nat×υ))(v:ε):Prop:=∃b∈a,v=π (N ⟨b.1,0,A⟩)
theorem aaZ{cap:Nat}(i:θ w y 155 q)(l:∀b∈r,θ w b.1 42 b.2.cells)(m:0<k)(F:k<=1000)(e:∀a,a<k->∃v,q[a]? =N v/\yA r v):ν δ 301 #[V (N (U y 0 A)) k cap,af (.func 111) #[] #[]] w λh t=>(∃b∈r,h=ξ (π (N ⟨b.1,0,A⟩)))/\Y w t (·=y):=by
 obtain⟨H,_,E,z,_⟩:=e 0 m
 haveI:Inhabited {b // b∈r} :=⟨⟨E,z⟩⟩
 have B:∃g:List {b // b∈r},g.length=k/\∀a (d:a<g.length),q[a]? =N (π (N ⟨g[a].1.1,0,A⟩)):=by refine⟨(List.finRange k).map λa=>⟨(e a.1 a.2).choose_spec.2.choose,(e a.1 a.2).choose_spec.2.choose_spec.1⟩,by simp,λa d=> ?_⟩;simp only[dN,List.length_finRange] at d;have:=(e a d).choose_spec.1;rw[(e a d).choose_spec.2.choose_spec.2] at this;simpa using this
 obtain⟨g,rfl,C⟩:=B
 have j:=Any.slices_MinFunc_p afx (λc: {b // b∈r} => π (N ⟨c.1.1,0,A⟩)) (λ_=>rfl) (λc f=>uD c.1.2 f.1.2) 111 #[] y 0 cap g.toArray w (enters_of func111 (by kernel_rfl) rfl)
  (λp s u G c f=> ?_) (λa d=> ?_) i.lt (by simp;omega) (by simpa using m)
 .change ν δ 301 _ _ _ at j;simp only[oZ] at j;refine j.mono ?_;rintro h t ⟨rfl,p,s,rfl⟩;exact⟨⟨_,(Subtype.property _),rfl⟩,wL⟩
 .have o:=wL (enc:=λc: {b // b∈r} => π (N ⟨c.1.1,0,A⟩)) (w:=w) (g:=y) (q:=p) (d:=u) (os:=s);have n:∀b∈r,b.1≠y:=λb x h=>i.no (by decide) (h▸l b x);exact MS _ (o.blk (l c.1 c.2) (n _ c.2)) (o.blk (l f.1 f.2) (n _ f.2))
 simp only[oZ] at d;refine⟨?_,i.frozen _⟩;rw[i.cell,eP,C a d];simp[d]
theorem aff:∃a,prog.info? 155=N a/\a.zero=N (π A)/\a.size=1/\a.bytes=8:=by obtain⟨a,b,c,d,e⟩:=info_parts QU;exact⟨a,b,c,d,e⟩
theorem adF:∀a:Z,nW δ (Go.sizeOf 155) a= .ok 1 a:=λ_=>by kernel_rfl
theorem Wj{c:Nat}(s:θ w y 155 q)(Q:k<=q.size)(O:k<=1000)(j:List (Nat×υ))(n:∀a,a<k->∃v,q[a]? =N v/\yA j v):ν δ 299 #[V (N (U y 0 A)) k c] w λg h=>(∃f d e,g=ξ (V (N (U f 0 A)) k d)/\w.heap.size<=f/\k<=d/\d<=9223372036854775807/\θ h f 155 e/\e.size=d/\∀a,a<k->∃v,e[a]? =N v/\yA j v)/\Y w h γ:=by
 obtain⟨E,G,H,I,J⟩:=aff;have i:=AnyE.slices_Clone afp E (π A) 1 8 G H I J rfl (by decide) adF y 0 k c (q.toList.take k) w (by simp;omega) (by unfold Χ;omega) (by omega) (λa K b=> ?_) (λK C=> ?_)
 .change ν δ 299 _ _ _ at i;refine i.mono ?_;rintro g h ⟨R,rfl,B,z,r⟩;obtain⟨g,_⟩|⟨f,d,e,rfl,t,u,o,p,L,l⟩:=B.2
  .exact ahN g z
  refine⟨⟨f,d,e,rfl,t,o,by unfold Χ at p;omega,u,by omega,λa b=> ?_⟩,Y.of_below r γ⟩;obtain⟨v,hv,x⟩:=n a b;refine⟨v,?_,x⟩;have m:(e.toList.take k)[a]? =(q.toList.take k)[a]? :=by rw[AV] at l;rw[l]
  rw[vu b,vu b] at m;simpa[hv] using m
 .have M:=b;rw[List.getElem?_take] at b;split at b
  .rw[s.cell,eP];simpa using b
  cases b
 obtain⟨a,b,rfl⟩:=List.getElem_of_mem C;simp at b;obtain⟨v,hv,F,P,rfl⟩:=n a (by omega);have:q.toList[a]? =N (π (N ⟨F.1,0,A⟩)):=by simpa using hv
 rw[List.getElem_take];rw[cT (by simp;omega)] at this;rw[cr this];rfl
def Uv(f:Z)(a:List (Nat×υ))(c:aI)(e:Z):Prop:=(∃b,c=ξ (ig b)/\(a.length<4->b=A)/\(4<=a.length->∃d∈a,b=N d))/\Y f e γ
theorem Rx(e:fw w y m r j)(af:r.length<=1000)(f:BA):ν δ 241 #[π (N (U y 0 A)),H f] w (Uv w (r.filter λa=>same a.2.ψ f)):=by
 have p:Y w (w.alloc (ζ #[H f] 9)) γ:=(Y.refl w γ).alloc _;have d:=(lJ y m r).keeps e p λ_ _ e=>e;have u:=K (Bv d af 297 #[π (N (U w.heap.size 0 A))] (enters_of func297 (by kernel_rfl) rfl) (λW=>same W.ψ f) (zS d λg h aC W ah=>ahj ah w.heap.size f (by rw[(h.blk (θ.new w 9 #[H f]) id).cell];rfl)));have ao:∀a∈r.filter (λa=>same a.2.ψ f),θ (w.alloc (ζ #[H f] 9)) a.1 42 a.2.cells:=λa k=>by obtain⟨ax,d⟩:=d;exact d.cells a (dE.1 k).1
 have aL:=jo (λa:Nat×υ=>same a.2.ψ f) r;have x:∀g,Y (w.alloc (ζ #[H f] 9)) g γ->g.cell? (U y 2 A)=N (I E 4):=λg h=>by obtain⟨ax,d⟩:=d;have:=(h.blk d.blk id).cell 2;simpa using this
 clear e d;generalize r.filter (λa=>same a.2.ψ f)=b at*;by_cases z:b.length<4
 .have ad:(b.length:Int)<4:=by omega
  go_enter func241,ntmps241;go_wp2_with fail;refine u.out.mono ?_;rintro c q ⟨v,rfl,J,i⟩;have P:=x q i;obtain⟨aB,aD,rfl⟩:=eX J;go_wp2;all_goals(go_ret;exact⟨⟨A,rfl,λ_=>rfl,λe=>ahN z (by omega)⟩,p.trans i Η⟩)
 have ad:¬(b.length:Int)<4:=by omega
 go_enter func241,ntmps241;go_wp2_with fail;refine u.out.mono ?_;rintro c q ⟨v,rfl,J,i⟩;have P:=x q i;have ar:b.length≠0:=by omega
 obtain⟨_,aq⟩|⟨Q,aa,o,rfl,aG,V,aN,aO,ay,s⟩:=J.2
 .exact ahN aq ar
 have B:θ q Q 155 o:=V
 have S:∀l,l<b.length->∃v,o[l]? =N v/\yA b v:=λl C=>by
  rw[AV] at s;have n:(o.toList.take b.length)[l]? =(mJ b)[l]? :=by rw[s]
  rw[vu C] at n;refine⟨π (N ⟨b[l].1,0,A⟩),by simpa[mJ,C] using n,b[l],eA C,rfl⟩
 have ag:o[0]? =N (π (N ⟨b[0].1,0,A⟩)):=by
  have n:(o.toList.take b.length)[0]? =(mJ b)[0]? :=by rw[<-s,AV]
  rw[vu (by omega)] at n;have ae:(mJ b)[0]? =N (π (N ⟨b[0].1,0,A⟩)):=by simp only[mJ,List.getElem?_map];rw[cT (by omega)];rfl
  rw[ae] at n;simpa using n
 have L:=K (Wj (c:=aa) B (by omega) (by omega) b S);go_wp2_with fail;refine L.out.mono ?_;rintro c az ⟨⟨R,ab,aE,rfl,aH,am,an,ai,au,ak⟩,F⟩;have aI:=B.lt;have T:∀g,Y az g (·=R)->∀a∈b,θ g a.1 42 a.2.cells:=λg h a k=>by have d:=i.blk (ao a k) id;have ac:=F.blk d id;exact h.blk ac λc=>by have:=d.lt;omega
 have M:=K (WZ ai au am an ak (λv ⟨a,_,c⟩=>⟨a.1,c⟩) (λv=>by classical exact if e:yA b v then !(e.choose.2.Δ== -1) else false) 300 #[] (enters_of func300 (by kernel_rfl) rfl) (λg h v hv=>by simp only[dif_pos hv];have c:=hv.choose_spec.2;have:=Vt (T g h _ hv.choose_spec.1);rw[<-c] at this;exact this));clear L u S s ay x V P;go_wp2_with fail;refine M.out.mono ?_;rintro c t ⟨h,aF,rfl,aJ,aj,aM,al,G⟩;have O:Y w t γ:=(((p.trans i Η).trans F Η).trans G λaA c=> .inr (by have:=(p.trans i Η).size;omega));clear M;by_cases ap:h=0
 .subst ap;have aQ:t.cell? (U Q 0 A)=N (π (N ⟨b[0].1,0,A⟩)):=by have av:Y q t (·=R):=(F.any).trans G λ_ c=> .inl c;rw[(av.blk B (by omega)).cell 0];exact ag
  go_wp2;all_goals(go_ret;exact⟨⟨N b[0],rfl,λe=>ahN e z,λ_=>⟨b[0],eA _,rfl⟩⟩,O⟩)
 have aK:(0:Int)<h:=by omega
 have X:=K (aaZ (cap:=ab) aj (λa k=>T t G a k) (by omega) (by omega) al);go_wp2_with fail;refine X.out.mono ?_;rintro c aP ⟨⟨a,k,rfl⟩,aw⟩;go_wp2;all_goals(go_ret;exact⟨⟨N a,rfl,λe=>ahN e z,λ_=>⟨a,k,rfl⟩⟩,O.trans aw λaA c=> .inr (by have:=(p.trans i Η).size;omega)⟩)
end
section
open Go.Sort
theorem RH(d c:BA)(a:Nat)(b:Z)(e:b.cell? (U a 0 A)=N (H d)):FnGives δ 186 #[π (N (U a 0 A))] #[H c] (ι (c.toList==d.toList)) b:=by show ν δ 186 #[H c,π (N (U a 0 A))] b _;go_enter func186,ntmps186;go_wp2;all_goals(go_ret;exact⟨rfl,0,rfl⟩)
theorem ahu(b:BA)(a:Nat)(c:Z)(f:a<c.heap.size)(h:c.cell? (U a 0 A)=N (H b)):PredAt δ 186 #[π (N (U a 0 A))] H (λd=>d.toList==b.toList) c:=
 λe d g=>RH b d a e ((g.cell (p:=(U a 0 A)) f).trans h)
theorem ahv(b:BA)(a blk h:Nat)(c:Z)(e:a<c.heap.size)(g:a≠blk)(f:c.cell? (U a 0 A)=N (H b)):PredOver δ 186 #[π (N (U a 0 A))] H (λd=>d.toList==b.toList) blk 0 h c:=
 λk j i d _=>RH b d a _ (by unfold sortWorld;rw[cell?_grow _ _ _ (by show a<(putRow _ _ _ _ _).heap.size;rw[size_putRow];exact e),cell?_putRow_other _ _ blk 0 _ _ (Or.inl g)];exact f)
variable{w:Z}{x:ε}{y k d:Nat}{m:Int}{j:Bs}{q:Array ε}{r:List (Nat×υ)}{u:aQ}
theorem Xa(d:List BA)(e:w.ownsRow 0 9 1 x y (d.map H))(b:BA)(a:Nat)(g:a<w.heap.size)(k:x.ownBlock≠N a)(h:w.cell? (U a 0 A)=N (H b)):ν δ 185 #[x,af (.func 186) #[] #[π (N (U a 0 A))]] w (Ki w 0 x (d.filter λf=> !(f.toList==b.toList))):=by
 by_cases hv:x=V A 0 0
 .subst hv;refine(Xb w _).mono ?_;rintro c m ⟨rfl,rfl⟩
  have l:d=[]:=by
   obtain⟨_,j⟩|⟨_,_,_,c,_⟩:=e.2
   .have:=e.1;simp[j] at this;exact this
   cases c
  subst l;exact⟨_,rfl,db _ _ _ _,Y.refl _ _,rfl⟩
 exact Mv d e hv (λf=>f.toList==b.toList) 186 #[π (N (U a 0 A))] (enters_of func186 (by kernel_rfl) rfl) (ahu b a w g h) (λblk i=>ahv b a blk y w g (λc=>k (c▸i)) h)
def Sn(g:Z)(e f:Nat)(a:Bs)(d:aI)(c:Z):Prop:=d=ξ (σ #[])/\∃b,pn c e b a/\Ψ g c a a/\b<=f
theorem RB(b:pn w y k j)(c:BA)(X:c.size<=Χ):ν δ 112 #[π (N (U y 0 A)),H c] w (Sn w y k j):=by
 obtain⟨I,aa,x,h,b⟩:=b;have aj:=b.blk.lt;have al:=b.map.lt;have G:Y w (w.alloc (ζ #[H c] 9)) γ:=(Y.refl w γ).alloc _;have e:jH (w.alloc (ζ #[H c] 9)) y k j I aa x h:=b.stay λp s=>G.block p (b.lt p s) id;obtain⟨z,ad,ab,i⟩:=e.map.drew.drop dG (t:=122) (e:=194) xw (x:=c) X 0;simp only[bR] at ad;have M:=(θ.new w 9 #[H c]).cell 0;have L:=e.blk.cell 0;simp at M L;have C:=i.blk (g:=y) e.blk.drew e.ne;have ac:z.ownsRow 0 9 1 x k (h.map H):=aD e.own.drew i λf g=>(e.apart f g).2;have af:z.cell? (U w.heap.size 0 A)=N (H c):=by rw[(i.blk (g:=w.heap.size) (θ.new w 9 #[H c]).drew (by omega)).cell];rfl
 have ag:w.heap.size<z.heap.size:=dQ (by simp) i.size;have S:=K (Xa h ac c w.heap.size ag (λa=>by have:=ie b.own a;omega) af);have P:=C.cell 1;simp at P;have m:=b.apart;have W:∃l E,x=V l k E:=eX b.own;obtain⟨l,E,rfl⟩:=W;go_enter func112,ntmps112;go_wp2_with fail;go_region
 go_wp2_with fail;refine S.out.mono ?_;rintro a ae ⟨am,rfl,J,q,u⟩;have r:=q.blk C (λa=>(m _ a).1 rfl);have ah:=r.frozen 1;have R:=r.cell 1;simp at R;obtain⟨B,F,rfl⟩:=eX J;go_wp2;all_goals go_end0
 all_goals
  have kk:=(((G.drew.any (F:=j)).trans i λd a=> .inl (a▸b.fm)).trans q λd a=> .inl (b.fo d a)).χ (p:=(U y 1 A)) (.inl b.fg) (V B (List.filter (λd=> !d.toList==c.toList) h).length F);have t:=(Y.refl ae (·=y)).χ (p:=(U y 1 A)) (.inl rfl) (V B (List.filter (λd=> !d.toList==c.toList) h).length F);have ak:h.length=k:=by simpa using b.own.1
  have ai:=jo (λd:BA=> !d.toList==c.toList) h;refine⟨rfl,_,⟨I,_,_,_,⟨(r.χ 1 _).to (by simp),(ab.keeps q λa=>(m _ a).2 rfl).keeps t λa=>b.ne a.symm,aD J t λf g=>(m f (u▸g)).1,λd v o=> ?_,b.ne,λf g=>m f (u▸g),b.fg,b.fm,λf g=>b.fo f (u▸g),λp s=>dQ (b.lt p s) kk.size⟩⟩,⟨kk,λ_ b=> .inl b⟩,by omega⟩;by_cases a:d=c
  .subst a;rw[dJ] at o;cases o
  .rw[dI _ _ _ _ a] at o;obtain⟨O,l,f,Q,T,n⟩:=e.dev d v o;exact⟨O,l,f,Q,T,t.blk (q.blk (i.blk n.drew λa=>e.map.no (a▸n)) λa=>Il e.own a (by decide) n) λa=>e.blk.no (by decide) (a▸n)⟩
def Ut(h:Z)(f g:Nat)(d:Bs)(e:aI)(c:Z):Prop:=e=ξ (σ #[])/\∃b a,pn c f b a/\Ψ h c d a/\b<=g+64
theorem aeE(b:pn w y k j)(Ι:Int)(ad:k<=999999999000):ν δ 72 #[π (N (U y 0 A)),I E Ι] w (Ut w y k j):=by
 obtain⟨q,C,G,L,b⟩:=b;have R:=b.blk.cell 0;simp at R;have r:=K (aaj (w:=w) (mb:=q));have s:=K (adO b.map (by omega));go_enter func72,ntmps72;go_wp2_with fail
 all_goals first
  |(
   refine r.out.mono ?_;rintro d m ⟨rfl,rfl⟩;go_wp2_with fail;refine s.out.mono ?_;rintro d m ⟨v,e,rfl,g,ap,x,B⟩;have V:jH m y k j q C G L:=b.stay λa u=>B.block a (b.lt a u) id;have ae:∀c,v.ownBlock=N c->¬j c:=λc X hF=>by have:=(g.lt c X).1;have:=b.lt c hF;omega
   obtain⟨Q,am,rfl⟩:=eX g;generalize o:e.length=h at*;have o:=K o;clear r s;go_wp2;go_loopw [5,19] (λ_ p wr=>∃(a l:Nat) (i:Bs) (J:ε) (M:List BA),a<=h/\p=I E a/\jH wr y l i q C J M/\Ψ m wr j i/\l<=k+a) (λ_ p _=>h-(aB p).toNat)
   case atStart=>exact⟨0,k,j,G,L,ai _,rfl,V,Ψ.refl m j,by omega⟩
   case round=>
    obtain⟨a,l,i,J,M,u,rfl,t,n,aq⟩:=hrel;by_cases aa:a<h
    .have ab:(a:Int)<h:=by omega
     have z:a<e.length:=by rw[o.out];exact aa
     have F:=aD g n.keeps ae
     obtain⟨f,rfl⟩:∃f,Q=N (U f 0 A):=by
      obtain⟨d,ad⟩|⟨c,an,ao,d,_⟩:=g.2
      .omega
      .injection d with S;exact⟨c,S⟩
     have av:wr.cell? (U f a A)=N (H e[a]):=by
      have:=F.cells (g:=f) rfl a (H e[a]) (by simp[z]);have d:((⟨f,0,A⟩:Addr).add a)=⟨f,a,A⟩:=by unfold jm;by_cases T:a=0<;>simp[T]
      rw[d] at this;exact this
     obtain⟨ag,ac⟩:=x e[a] (eA z);obtain⟨ak,af⟩:=Option.isSome_iff_exists.1 ac;have Y:=K (Ju t e[a] Ι ag (by omega) ak af);generalize e[a]=aw at*;clear F g x;go_wp2_with fail;refine Y.out.mono ?_;rintro d au ⟨rfl,ah,O,aj,al,W,P,ar⟩;go_wp2;refine⟨⟨a+1,ah,O,aj,al,by omega,by go_num,W,n.trans P,by omega⟩,by simp[aB];omega⟩
    obtain rfl:a=h:=by omega
    have ab:¬(a:Int)<a:=by omega
    go_wp2;all_goals go_end0
    all_goals exact⟨rfl,l,i,⟨_,_,_,_,t⟩,(Ψ.bu B j).trans n,by omega⟩)
  |(go_end0;exact⟨rfl,k,j,⟨_,_,_,_,b⟩,Ψ.refl w j,by omega⟩)
  |(refine Ω (results_none rfl _ _ _) rfl ?_;exact⟨rfl,k,j,⟨_,_,_,_,b⟩,Ψ.refl w j,by omega⟩)
  |skip
end
end Go.Proofs.YtdgneofhcenhfaaGreatDoor
